/- syncopelaw6.CheckBuilt: what its own text owes is paid. Printed by a program (gen_lv.py). -/
import Derived.Test.YtjboohjicdmidaaDoorLw
namespace Go.Proofs.YtjboohjicdmidaaDoor
open Go.RowKit Go.Am Go.Sy
set_option linter.unusedVariables false
set_option linter.unusedSimpArgs false

theorem lb_e (k : K8) (rows : List (List Int)) : Go.Sy.Tree.holds (entryX F (lookC q4) 600 Tryd.f4 b4 ⟨[(5, ltC)], .b true, []⟩ [.agg (enc7 k), .tl (T := T) 5 rows]) = ( fwD.pre (rows, (12 : Int), ()) ∧ ((!fewB rows (12 :
 Int)) = true → true = true ∧ True) ∧ ((!fewB rows (12 : Int)) = false → ((IntKind.i64.wrap ((IntKind.u64.wrap k.h).tmod 4) == 1) = true → (decide (IntKind.i64.wrap ((IntKind.u64.wrap k.e).tmod 5) > 0) = true → (decide
 ((0 : Int) < (↑rows.length : Int)) = true → ((0 : Int) ≤ 0 ∧ (0 : Int) < (↑rows.length : Int)) ∧ lenOk (at5 rows (0 : Int)) ∧ (decide ((1 : Int) < (↑rows.length : Int)) = true → ((0 : Int) ≤ 1 ∧ (1 : Int) < (↑rows.length
 : Int)) ∧ lenOk (at5 rows (1 : Int)) ∧ (decide ((2 : Int) < (↑rows.length : Int)) = true → ((0 : Int) ≤ 2 ∧ (2 : Int) < (↑rows.length : Int)) ∧ lenOk (at5 rows (2 : Int)) ∧ (decide ((3 : Int) < (↑rows.length : Int)) =
 true → (((↑rows.length : Int) == 0) = true → ∃ (s : Config × Nat), IntKind.i64.wrap ((1 : Int) + IntKind.i64.wrap ((IntKind.u64.wrap k.a).tmod 2)) = s.fst.engine ∧ IntKind.i64.wrap ((1 : Int) + IntKind.i64.wrap
 ((IntKind.u64.wrap k.b).tmod 2)) = s.fst.clock ∧ IntKind.i64.wrap ((1 : Int) + IntKind.i64.wrap ((IntKind.u64.wrap k.c).tmod 7)) = s.fst.stripes ∧ IntKind.i64.wrap ((32 : Int) - IntKind.i64.wrap (IntKind.i64.wrap
 ((IntKind.u64.wrap k.d).tmod 4) * 9)) = s.fst.reads ∧ (32 : Int) = s.fst.writes ∧ IntKind.i64.wrap ((IntKind.u64.wrap k.f).tmod 4) = s.fst.retry ∧ IntKind.i64.wrap ((20 : Int) + IntKind.i64.wrap ((IntKind.u64.wrap
 k.g).tmod 60)) = s.fst.fuel ∧ IntKind.i64.wrap ((IntKind.u64.wrap (IntKind.i64.wrap (k.h.tdiv 4))).tmod 12) = s.fst.most ∧ [(0 : Int), (1 : Int), (2 : Int), (3 : Int), (0 : Int), (1 : Int), (2 : Int), (3 : Int), (0 :
 Int)] = s.fst.init ∧ [Lock.mk (IntKind.i64.wrap ((1 : Int) + IntKind.i64.wrap ((IntKind.u64.wrap (IntKind.i64.wrap (k.a.tdiv 2))).tmod 2))) (0 : Int) (3 : Int), Lock.mk (IntKind.i64.wrap ((3 : Int) - IntKind.i64.wrap ((1
 : Int) + IntKind.i64.wrap ((IntKind.u64.wrap (IntKind.i64.wrap (k.a.tdiv 2))).tmod 2)))) (3 : Int) (3 : Int), Lock.mk (3 : Int) (6 : Int) (3 : Int)] = s.fst.locks ∧ [(0 : Int), (1 : Int), (2 : Int)] = s.fst.conds ∧ [[]]
 = s.fst.progs ∧ (0 : Int) = (↑s.snd : Int) ∧ (builtC s.fst ∧ s.snd ≤ s.fst.progs.length) ∧ True) ∧ (((↑rows.length : Int) == 0) = false → ∃ (s : Config × Nat), IntKind.i64.wrap ((1 : Int) + IntKind.i64.wrap
 ((IntKind.u64.wrap k.a).tmod 2)) = s.fst.engine ∧ IntKind.i64.wrap ((1 : Int) + IntKind.i64.wrap ((IntKind.u64.wrap k.b).tmod 2)) = s.fst.clock ∧ IntKind.i64.wrap ((1 : Int) + IntKind.i64.wrap ((IntKind.u64.wrap
 k.c).tmod 7)) = s.fst.stripes ∧ IntKind.i64.wrap ((32 : Int) - IntKind.i64.wrap (IntKind.i64.wrap ((IntKind.u64.wrap k.d).tmod 4) * 9)) = s.fst.reads ∧ (32 : Int) = s.fst.writes ∧ IntKind.i64.wrap ((IntKind.u64.wrap
 k.f).tmod 4) = s.fst.retry ∧ IntKind.i64.wrap ((20 : Int) + IntKind.i64.wrap ((IntKind.u64.wrap k.g).tmod 60)) = s.fst.fuel ∧ IntKind.i64.wrap ((IntKind.u64.wrap (IntKind.i64.wrap (k.h.tdiv 4))).tmod 12) = s.fst.most ∧
 [(0 : Int), (1 : Int), (2 : Int), (3 : Int), (0 : Int), (1 : Int), (2 : Int), (3 : Int), (0 : Int)] = s.fst.init ∧ [Lock.mk (IntKind.i64.wrap ((1 : Int) + IntKind.i64.wrap ((IntKind.u64.wrap (IntKind.i64.wrap (k.a.tdiv
 2))).tmod 2))) (0 : Int) (3 : Int), Lock.mk (IntKind.i64.wrap ((3 : Int) - IntKind.i64.wrap ((1 : Int) + IntKind.i64.wrap ((IntKind.u64.wrap (IntKind.i64.wrap (k.a.tdiv 2))).tmod 2)))) (3 : Int) (3 : Int), Lock.mk (3 :
 Int) (6 : Int) (3 : Int)] = s.fst.locks ∧ [(0 : Int), (1 : Int), (2 : Int)] = s.fst.conds ∧ [progL (at5 rows (0 : Int)), progL (at5 rows (1 : Int)), progL (at5 rows (2 : Int))] = s.fst.progs ∧ (0 : Int) = (↑s.snd : Int)
 ∧ (builtC s.fst ∧ s.snd ≤ s.fst.progs.length) ∧ True)) ∧ (decide ((3 : Int) < (↑rows.length : Int)) = false → (((↑rows.length : Int) == 0) = true → ∃ (s : Config × Nat), IntKind.i64.wrap ((1 : Int) + IntKind.i64.wrap
 ((IntKind.u64.wrap k.a).tmod 2)) = s.fst.engine ∧ IntKind.i64.wrap ((1 : Int) + IntKind.i64.wrap ((IntKind.u64.wrap k.b).tmod 2)) = s.fst.clock ∧ IntKind.i64.wrap ((1 : Int) + IntKind.i64.wrap ((IntKind.u64.wrap
 k.c).tmod 7)) = s.fst.stripes ∧ IntKind.i64.wrap ((32 : Int) - IntKind.i64.wrap (IntKind.i64.wrap ((IntKind.u64.wrap k.d).tmod 4) * 9)) = s.fst.reads ∧ (32 : Int) = s.fst.writes ∧ IntKind.i64.wrap ((IntKind.u64.wrap
 k.f).tmod 4) = s.fst.retry ∧ IntKind.i64.wrap ((20 : Int) + IntKind.i64.wrap ((IntKind.u64.wrap k.g).tmod 60)) = s.fst.fuel ∧ IntKind.i64.wrap ((IntKind.u64.wrap (IntKind.i64.wrap (k.h.tdiv 4))).tmod 12) = s.fst.most ∧
 [(0 : Int), (1 : Int), (2 : Int), (3 : Int), (0 : Int), (1 : Int), (2 : Int), (3 : Int), (0 : Int)] = s.fst.init ∧ [Lock.mk (IntKind.i64.wrap ((1 : Int) + IntKind.i64.wrap ((IntKind.u64.wrap (IntKind.i64.wrap (k.a.tdiv
 2))).tmod 2))) (0 : Int) (3 : Int), Lock.mk (IntKind.i64.wrap ((3 : Int) - IntKind.i64.wrap ((1 : Int) + IntKind.i64.wrap ((IntKind.u64.wrap (IntKind.i64.wrap (k.a.tdiv 2))).tmod 2)))) (3 : Int) (3 : Int), Lock.mk (3 :
 Int) (6 : Int) (3 : Int)] = s.fst.locks ∧ [(0 : Int), (1 : Int), (2 : Int)] = s.fst.conds ∧ [[]] = s.fst.progs ∧ (0 : Int) = (↑s.snd : Int) ∧ (builtC s.fst ∧ s.snd ≤ s.fst.progs.length) ∧ True) ∧ (((↑rows.length : Int)
 == 0) = false → ∃ (s : Config × Nat), IntKind.i64.wrap ((1 : Int) + IntKind.i64.wrap ((IntKind.u64.wrap k.a).tmod 2)) = s.fst.engine ∧ IntKind.i64.wrap ((1 : Int) + IntKind.i64.wrap ((IntKind.u64.wrap k.b).tmod 2)) =
 s.fst.clock ∧ IntKind.i64.wrap ((1 : Int) + IntKind.i64.wrap ((IntKind.u64.wrap k.c).tmod 7)) = s.fst.stripes ∧ IntKind.i64.wrap ((32 : Int) - IntKind.i64.wrap (IntKind.i64.wrap ((IntKind.u64.wrap k.d).tmod 4) * 9)) =
 s.fst.reads ∧ (32 : Int) = s.fst.writes ∧ IntKind.i64.wrap ((IntKind.u64.wrap k.f).tmod 4) = s.fst.retry ∧ IntKind.i64.wrap ((20 : Int) + IntKind.i64.wrap ((IntKind.u64.wrap k.g).tmod 60)) = s.fst.fuel ∧ IntKind.i64.wrap
 ((IntKind.u64.wrap (IntKind.i64.wrap (k.h.tdiv 4))).tmod 12) = s.fst.most ∧ [(0 : Int), (1 : Int), (2 : Int), (3 : Int), (0 : Int), (1 : Int), (2 : Int), (3 : Int), (0 : Int)] = s.fst.init ∧ [Lock.mk (IntKind.i64.wrap
 ((1 : Int) + IntKind.i64.wrap ((IntKind.u64.wrap (IntKind.i64.wrap (k.a.tdiv 2))).tmod 2))) (0 : Int) (3 : Int), Lock.mk (IntKind.i64.wrap ((3 : Int) - IntKind.i64.wrap ((1 : Int) + IntKind.i64.wrap ((IntKind.u64.wrap
 (IntKind.i64.wrap (k.a.tdiv 2))).tmod 2)))) (3 : Int) (3 : Int), Lock.mk (3 : Int) (6 : Int) (3 : Int)] = s.fst.locks ∧ [(0 : Int), (1 : Int), (2 : Int)] = s.fst.conds ∧ [progL (at5 rows (0 : Int)), progL (at5 rows (1 :
 Int)), progL (at5 rows (2 : Int))] = s.fst.progs ∧ (0 : Int) = (↑s.snd : Int) ∧ (builtC s.fst ∧ s.snd ≤ s.fst.progs.length) ∧ True))) ∧ (decide ((2 : Int) < (↑rows.length : Int)) = false → (((↑rows.length : Int) == 0) =
 true → ∃ (s : Config × Nat), IntKind.i64.wrap ((1 : Int) + IntKind.i64.wrap ((IntKind.u64.wrap k.a).tmod 2)) = s.fst.engine ∧ IntKind.i64.wrap ((1 : Int) + IntKind.i64.wrap ((IntKind.u64.wrap k.b).tmod 2)) = s.fst.clock
 ∧ IntKind.i64.wrap ((1 : Int) + IntKind.i64.wrap ((IntKind.u64.wrap k.c).tmod 7)) = s.fst.stripes ∧ IntKind.i64.wrap ((32 : Int) - IntKind.i64.wrap (IntKind.i64.wrap ((IntKind.u64.wrap k.d).tmod 4) * 9)) = s.fst.reads ∧
 (32 : Int) = s.fst.writes ∧ IntKind.i64.wrap ((IntKind.u64.wrap k.f).tmod 4) = s.fst.retry ∧ IntKind.i64.wrap ((20 : Int) + IntKind.i64.wrap ((IntKind.u64.wrap k.g).tmod 60)) = s.fst.fuel ∧ IntKind.i64.wrap
 ((IntKind.u64.wrap (IntKind.i64.wrap (k.h.tdiv 4))).tmod 12) = s.fst.most ∧ [(0 : Int), (1 : Int), (2 : Int), (3 : Int), (0 : Int), (1 : Int), (2 : Int), (3 : Int), (0 : Int)] = s.fst.init ∧ [Lock.mk (IntKind.i64.wrap
 ((1 : Int) + IntKind.i64.wrap ((IntKind.u64.wrap (IntKind.i64.wrap (k.a.tdiv 2))).tmod 2))) (0 : Int) (3 : Int), Lock.mk (IntKind.i64.wrap ((3 : Int) - IntKind.i64.wrap ((1 : Int) + IntKind.i64.wrap ((IntKind.u64.wrap
 (IntKind.i64.wrap (k.a.tdiv 2))).tmod 2)))) (3 : Int) (3 : Int), Lock.mk (3 : Int) (6 : Int) (3 : Int)] = s.fst.locks ∧ [(0 : Int), (1 : Int), (2 : Int)] = s.fst.conds ∧ [[]] = s.fst.progs ∧ (0 : Int) = (↑s.snd : Int) ∧
 (builtC s.fst ∧ s.snd ≤ s.fst.progs.length) ∧ True) ∧ (((↑rows.length : Int) == 0) = false → ∃ (s : Config × Nat), IntKind.i64.wrap ((1 : Int) + IntKind.i64.wrap ((IntKind.u64.wrap k.a).tmod 2)) = s.fst.engine ∧
 IntKind.i64.wrap ((1 : Int) + IntKind.i64.wrap ((IntKind.u64.wrap k.b).tmod 2)) = s.fst.clock ∧ IntKind.i64.wrap ((1 : Int) + IntKind.i64.wrap ((IntKind.u64.wrap k.c).tmod 7)) = s.fst.stripes ∧ IntKind.i64.wrap ((32 :
 Int) - IntKind.i64.wrap (IntKind.i64.wrap ((IntKind.u64.wrap k.d).tmod 4) * 9)) = s.fst.reads ∧ (32 : Int) = s.fst.writes ∧ IntKind.i64.wrap ((IntKind.u64.wrap k.f).tmod 4) = s.fst.retry ∧ IntKind.i64.wrap ((20 : Int) +
 IntKind.i64.wrap ((IntKind.u64.wrap k.g).tmod 60)) = s.fst.fuel ∧ IntKind.i64.wrap ((IntKind.u64.wrap (IntKind.i64.wrap (k.h.tdiv 4))).tmod 12) = s.fst.most ∧ [(0 : Int), (1 : Int), (2 : Int), (3 : Int), (0 : Int), (1 :
 Int), (2 : Int), (3 : Int), (0 : Int)] = s.fst.init ∧ [Lock.mk (IntKind.i64.wrap ((1 : Int) + IntKind.i64.wrap ((IntKind.u64.wrap (IntKind.i64.wrap (k.a.tdiv 2))).tmod 2))) (0 : Int) (3 : Int), Lock.mk (IntKind.i64.wrap
 ((3 : Int) - IntKind.i64.wrap ((1 : Int) + IntKind.i64.wrap ((IntKind.u64.wrap (IntKind.i64.wrap (k.a.tdiv 2))).tmod 2)))) (3 : Int) (3 : Int), Lock.mk (3 : Int) (6 : Int) (3 : Int)] = s.fst.locks ∧ [(0 : Int), (1 :
 Int), (2 : Int)] = s.fst.conds ∧ [progL (at5 rows (0 : Int)), progL (at5 rows (1 : Int))] = s.fst.progs ∧ (0 : Int) = (↑s.snd : Int) ∧ (builtC s.fst ∧ s.snd ≤ s.fst.progs.length) ∧ True))) ∧ (decide ((1 : Int) <
 (↑rows.length : Int)) = false → (((↑rows.length : Int) == 0) = true → ∃ (s : Config × Nat), IntKind.i64.wrap ((1 : Int) + IntKind.i64.wrap ((IntKind.u64.wrap k.a).tmod 2)) = s.fst.engine ∧ IntKind.i64.wrap ((1 : Int) +
 IntKind.i64.wrap ((IntKind.u64.wrap k.b).tmod 2)) = s.fst.clock ∧ IntKind.i64.wrap ((1 : Int) + IntKind.i64.wrap ((IntKind.u64.wrap k.c).tmod 7)) = s.fst.stripes ∧ IntKind.i64.wrap ((32 : Int) - IntKind.i64.wrap
 (IntKind.i64.wrap ((IntKind.u64.wrap k.d).tmod 4) * 9)) = s.fst.reads ∧ (32 : Int) = s.fst.writes ∧ IntKind.i64.wrap ((IntKind.u64.wrap k.f).tmod 4) = s.fst.retry ∧ IntKind.i64.wrap ((20 : Int) + IntKind.i64.wrap
 ((IntKind.u64.wrap k.g).tmod 60)) = s.fst.fuel ∧ IntKind.i64.wrap ((IntKind.u64.wrap (IntKind.i64.wrap (k.h.tdiv 4))).tmod 12) = s.fst.most ∧ [(0 : Int), (1 : Int), (2 : Int), (3 : Int), (0 : Int), (1 : Int), (2 : Int),
 (3 : Int), (0 : Int)] = s.fst.init ∧ [Lock.mk (IntKind.i64.wrap ((1 : Int) + IntKind.i64.wrap ((IntKind.u64.wrap (IntKind.i64.wrap (k.a.tdiv 2))).tmod 2))) (0 : Int) (3 : Int), Lock.mk (IntKind.i64.wrap ((3 : Int) -
 IntKind.i64.wrap ((1 : Int) + IntKind.i64.wrap ((IntKind.u64.wrap (IntKind.i64.wrap (k.a.tdiv 2))).tmod 2)))) (3 : Int) (3 : Int), Lock.mk (3 : Int) (6 : Int) (3 : Int)] = s.fst.locks ∧ [(0 : Int), (1 : Int), (2 : Int)]
 = s.fst.conds ∧ [[]] = s.fst.progs ∧ (0 : Int) = (↑s.snd : Int) ∧ (builtC s.fst ∧ s.snd ≤ s.fst.progs.length) ∧ True) ∧ (((↑rows.length : Int) == 0) = false → ∃ (s : Config × Nat), IntKind.i64.wrap ((1 : Int) +
 IntKind.i64.wrap ((IntKind.u64.wrap k.a).tmod 2)) = s.fst.engine ∧ IntKind.i64.wrap ((1 : Int) + IntKind.i64.wrap ((IntKind.u64.wrap k.b).tmod 2)) = s.fst.clock ∧ IntKind.i64.wrap ((1 : Int) + IntKind.i64.wrap
 ((IntKind.u64.wrap k.c).tmod 7)) = s.fst.stripes ∧ IntKind.i64.wrap ((32 : Int) - IntKind.i64.wrap (IntKind.i64.wrap ((IntKind.u64.wrap k.d).tmod 4) * 9)) = s.fst.reads ∧ (32 : Int) = s.fst.writes ∧ IntKind.i64.wrap
 ((IntKind.u64.wrap k.f).tmod 4) = s.fst.retry ∧ IntKind.i64.wrap ((20 : Int) + IntKind.i64.wrap ((IntKind.u64.wrap k.g).tmod 60)) = s.fst.fuel ∧ IntKind.i64.wrap ((IntKind.u64.wrap (IntKind.i64.wrap (k.h.tdiv 4))).tmod
 12) = s.fst.most ∧ [(0 : Int), (1 : Int), (2 : Int), (3 : Int), (0 : Int), (1 : Int), (2 : Int), (3 : Int), (0 : Int)] = s.fst.init ∧ [Lock.mk (IntKind.i64.wrap ((1 : Int) + IntKind.i64.wrap ((IntKind.u64.wrap
 (IntKind.i64.wrap (k.a.tdiv 2))).tmod 2))) (0 : Int) (3 : Int), Lock.mk (IntKind.i64.wrap ((3 : Int) - IntKind.i64.wrap ((1 : Int) + IntKind.i64.wrap ((IntKind.u64.wrap (IntKind.i64.wrap (k.a.tdiv 2))).tmod 2)))) (3 :
 Int) (3 : Int), Lock.mk (3 : Int) (6 : Int) (3 : Int)] = s.fst.locks ∧ [(0 : Int), (1 : Int), (2 : Int)] = s.fst.conds ∧ [progL (at5 rows (0 : Int))] = s.fst.progs ∧ (0 : Int) = (↑s.snd : Int) ∧ (builtC s.fst ∧ s.snd ≤
 s.fst.progs.length) ∧ True))) ∧ (decide ((0 : Int) < (↑rows.length : Int)) = false → (((↑rows.length : Int) == 0) = true → ∃ (s : Config × Nat), IntKind.i64.wrap ((1 : Int) + IntKind.i64.wrap ((IntKind.u64.wrap k.a).tmod
 2)) = s.fst.engine ∧ IntKind.i64.wrap ((1 : Int) + IntKind.i64.wrap ((IntKind.u64.wrap k.b).tmod 2)) = s.fst.clock ∧ IntKind.i64.wrap ((1 : Int) + IntKind.i64.wrap ((IntKind.u64.wrap k.c).tmod 7)) = s.fst.stripes ∧
 IntKind.i64.wrap ((32 : Int) - IntKind.i64.wrap (IntKind.i64.wrap ((IntKind.u64.wrap k.d).tmod 4) * 9)) = s.fst.reads ∧ (32 : Int) = s.fst.writes ∧ IntKind.i64.wrap ((IntKind.u64.wrap k.f).tmod 4) = s.fst.retry ∧
 IntKind.i64.wrap ((20 : Int) + IntKind.i64.wrap ((IntKind.u64.wrap k.g).tmod 60)) = s.fst.fuel ∧ IntKind.i64.wrap ((IntKind.u64.wrap (IntKind.i64.wrap (k.h.tdiv 4))).tmod 12) = s.fst.most ∧ [(0 : Int), (1 : Int), (2 :
 Int), (3 : Int), (0 : Int), (1 : Int), (2 : Int), (3 : Int), (0 : Int)] = s.fst.init ∧ [Lock.mk (IntKind.i64.wrap ((1 : Int) + IntKind.i64.wrap ((IntKind.u64.wrap (IntKind.i64.wrap (k.a.tdiv 2))).tmod 2))) (0 : Int) (3 :
 Int), Lock.mk (IntKind.i64.wrap ((3 : Int) - IntKind.i64.wrap ((1 : Int) + IntKind.i64.wrap ((IntKind.u64.wrap (IntKind.i64.wrap (k.a.tdiv 2))).tmod 2)))) (3 : Int) (3 : Int), Lock.mk (3 : Int) (6 : Int) (3 : Int)] =
 s.fst.locks ∧ [(0 : Int), (1 : Int), (2 : Int)] = s.fst.conds ∧ [[]] = s.fst.progs ∧ (0 : Int) = (↑s.snd : Int) ∧ (builtC s.fst ∧ s.snd ≤ s.fst.progs.length) ∧ True) ∧ (((↑rows.length : Int) == 0) = false → ∃ (s : Config
 × Nat), IntKind.i64.wrap ((1 : Int) + IntKind.i64.wrap ((IntKind.u64.wrap k.a).tmod 2)) = s.fst.engine ∧ IntKind.i64.wrap ((1 : Int) + IntKind.i64.wrap ((IntKind.u64.wrap k.b).tmod 2)) = s.fst.clock ∧ IntKind.i64.wrap
 ((1 : Int) + IntKind.i64.wrap ((IntKind.u64.wrap k.c).tmod 7)) = s.fst.stripes ∧ IntKind.i64.wrap ((32 : Int) - IntKind.i64.wrap (IntKind.i64.wrap ((IntKind.u64.wrap k.d).tmod 4) * 9)) = s.fst.reads ∧ (32 : Int) =
 s.fst.writes ∧ IntKind.i64.wrap ((IntKind.u64.wrap k.f).tmod 4) = s.fst.retry ∧ IntKind.i64.wrap ((20 : Int) + IntKind.i64.wrap ((IntKind.u64.wrap k.g).tmod 60)) = s.fst.fuel ∧ IntKind.i64.wrap ((IntKind.u64.wrap
 (IntKind.i64.wrap (k.h.tdiv 4))).tmod 12) = s.fst.most ∧ [(0 : Int), (1 : Int), (2 : Int), (3 : Int), (0 : Int), (1 : Int), (2 : Int), (3 : Int), (0 : Int)] = s.fst.init ∧ [Lock.mk (IntKind.i64.wrap ((1 : Int) +
 IntKind.i64.wrap ((IntKind.u64.wrap (IntKind.i64.wrap (k.a.tdiv 2))).tmod 2))) (0 : Int) (3 : Int), Lock.mk (IntKind.i64.wrap ((3 : Int) - IntKind.i64.wrap ((1 : Int) + IntKind.i64.wrap ((IntKind.u64.wrap
 (IntKind.i64.wrap (k.a.tdiv 2))).tmod 2)))) (3 : Int) (3 : Int), Lock.mk (3 : Int) (6 : Int) (3 : Int)] = s.fst.locks ∧ [(0 : Int), (1 : Int), (2 : Int)] = s.fst.conds ∧ [] = s.fst.progs ∧ (0 : Int) = (↑s.snd : Int) ∧
 (builtC s.fst ∧ s.snd ≤ s.fst.progs.length) ∧ True))) ∧ (decide (IntKind.i64.wrap ((IntKind.u64.wrap k.e).tmod 5) > 0) = false → (decide ((0 : Int) < (↑rows.length : Int)) = true → ((0 : Int) ≤ 0 ∧ (0 : Int) <
 (↑rows.length : Int)) ∧ lenOk (at5 rows (0 : Int)) ∧ (decide ((1 : Int) < (↑rows.length : Int)) = true → ((0 : Int) ≤ 1 ∧ (1 : Int) < (↑rows.length : Int)) ∧ lenOk (at5 rows (1 : Int)) ∧ (decide ((2 : Int) <
 (↑rows.length : Int)) = true → ((0 : Int) ≤ 2 ∧ (2 : Int) < (↑rows.length : Int)) ∧ lenOk (at5 rows (2 : Int)) ∧ (decide ((3 : Int) < (↑rows.length : Int)) = true → (((↑rows.length : Int) == 0) = true → ∃ (s : Config ×
 Nat), IntKind.i64.wrap ((1 : Int) + IntKind.i64.wrap ((IntKind.u64.wrap k.a).tmod 2)) = s.fst.engine ∧ IntKind.i64.wrap ((1 : Int) + IntKind.i64.wrap ((IntKind.u64.wrap k.b).tmod 2)) = s.fst.clock ∧ IntKind.i64.wrap ((1
 : Int) + IntKind.i64.wrap ((IntKind.u64.wrap k.c).tmod 7)) = s.fst.stripes ∧ IntKind.i64.wrap ((32 : Int) - IntKind.i64.wrap (IntKind.i64.wrap ((IntKind.u64.wrap k.d).tmod 4) * 9)) = s.fst.reads ∧ IntKind.i64.wrap ((1 :
 Int) + IntKind.i64.wrap ((IntKind.u64.wrap k.e).tmod 12)) = s.fst.writes ∧ IntKind.i64.wrap ((IntKind.u64.wrap k.f).tmod 4) = s.fst.retry ∧ IntKind.i64.wrap ((20 : Int) + IntKind.i64.wrap ((IntKind.u64.wrap k.g).tmod
 60)) = s.fst.fuel ∧ IntKind.i64.wrap ((IntKind.u64.wrap (IntKind.i64.wrap (k.h.tdiv 4))).tmod 12) = s.fst.most ∧ [(0 : Int), (1 : Int), (2 : Int), (3 : Int), (0 : Int), (1 : Int), (2 : Int), (3 : Int), (0 : Int)] =
 s.fst.init ∧ [Lock.mk (IntKind.i64.wrap ((1 : Int) + IntKind.i64.wrap ((IntKind.u64.wrap (IntKind.i64.wrap (k.a.tdiv 2))).tmod 2))) (0 : Int) (3 : Int), Lock.mk (IntKind.i64.wrap ((3 : Int) - IntKind.i64.wrap ((1 : Int)
 + IntKind.i64.wrap ((IntKind.u64.wrap (IntKind.i64.wrap (k.a.tdiv 2))).tmod 2)))) (3 : Int) (3 : Int), Lock.mk (3 : Int) (6 : Int) (3 : Int)] = s.fst.locks ∧ [(0 : Int), (1 : Int), (2 : Int)] = s.fst.conds ∧ [[]] =
 s.fst.progs ∧ (0 : Int) = (↑s.snd : Int) ∧ (builtC s.fst ∧ s.snd ≤ s.fst.progs.length) ∧ True) ∧ (((↑rows.length : Int) == 0) = false → ∃ (s : Config × Nat), IntKind.i64.wrap ((1 : Int) + IntKind.i64.wrap
 ((IntKind.u64.wrap k.a).tmod 2)) = s.fst.engine ∧ IntKind.i64.wrap ((1 : Int) + IntKind.i64.wrap ((IntKind.u64.wrap k.b).tmod 2)) = s.fst.clock ∧ IntKind.i64.wrap ((1 : Int) + IntKind.i64.wrap ((IntKind.u64.wrap
 k.c).tmod 7)) = s.fst.stripes ∧ IntKind.i64.wrap ((32 : Int) - IntKind.i64.wrap (IntKind.i64.wrap ((IntKind.u64.wrap k.d).tmod 4) * 9)) = s.fst.reads ∧ IntKind.i64.wrap ((1 : Int) + IntKind.i64.wrap ((IntKind.u64.wrap
 k.e).tmod 12)) = s.fst.writes ∧ IntKind.i64.wrap ((IntKind.u64.wrap k.f).tmod 4) = s.fst.retry ∧ IntKind.i64.wrap ((20 : Int) + IntKind.i64.wrap ((IntKind.u64.wrap k.g).tmod 60)) = s.fst.fuel ∧ IntKind.i64.wrap
 ((IntKind.u64.wrap (IntKind.i64.wrap (k.h.tdiv 4))).tmod 12) = s.fst.most ∧ [(0 : Int), (1 : Int), (2 : Int), (3 : Int), (0 : Int), (1 : Int), (2 : Int), (3 : Int), (0 : Int)] = s.fst.init ∧ [Lock.mk (IntKind.i64.wrap
 ((1 : Int) + IntKind.i64.wrap ((IntKind.u64.wrap (IntKind.i64.wrap (k.a.tdiv 2))).tmod 2))) (0 : Int) (3 : Int), Lock.mk (IntKind.i64.wrap ((3 : Int) - IntKind.i64.wrap ((1 : Int) + IntKind.i64.wrap ((IntKind.u64.wrap
 (IntKind.i64.wrap (k.a.tdiv 2))).tmod 2)))) (3 : Int) (3 : Int), Lock.mk (3 : Int) (6 : Int) (3 : Int)] = s.fst.locks ∧ [(0 : Int), (1 : Int), (2 : Int)] = s.fst.conds ∧ [progL (at5 rows (0 : Int)), progL (at5 rows (1 :
 Int)), progL (at5 rows (2 : Int))] = s.fst.progs ∧ (0 : Int) = (↑s.snd : Int) ∧ (builtC s.fst ∧ s.snd ≤ s.fst.progs.length) ∧ True)) ∧ (decide ((3 : Int) < (↑rows.length : Int)) = false → (((↑rows.length : Int) == 0) =
 true → ∃ (s : Config × Nat), IntKind.i64.wrap ((1 : Int) + IntKind.i64.wrap ((IntKind.u64.wrap k.a).tmod 2)) = s.fst.engine ∧ IntKind.i64.wrap ((1 : Int) + IntKind.i64.wrap ((IntKind.u64.wrap k.b).tmod 2)) = s.fst.clock
 ∧ IntKind.i64.wrap ((1 : Int) + IntKind.i64.wrap ((IntKind.u64.wrap k.c).tmod 7)) = s.fst.stripes ∧ IntKind.i64.wrap ((32 : Int) - IntKind.i64.wrap (IntKind.i64.wrap ((IntKind.u64.wrap k.d).tmod 4) * 9)) = s.fst.reads ∧
 IntKind.i64.wrap ((1 : Int) + IntKind.i64.wrap ((IntKind.u64.wrap k.e).tmod 12)) = s.fst.writes ∧ IntKind.i64.wrap ((IntKind.u64.wrap k.f).tmod 4) = s.fst.retry ∧ IntKind.i64.wrap ((20 : Int) + IntKind.i64.wrap
 ((IntKind.u64.wrap k.g).tmod 60)) = s.fst.fuel ∧ IntKind.i64.wrap ((IntKind.u64.wrap (IntKind.i64.wrap (k.h.tdiv 4))).tmod 12) = s.fst.most ∧ [(0 : Int), (1 : Int), (2 : Int), (3 : Int), (0 : Int), (1 : Int), (2 : Int),
 (3 : Int), (0 : Int)] = s.fst.init ∧ [Lock.mk (IntKind.i64.wrap ((1 : Int) + IntKind.i64.wrap ((IntKind.u64.wrap (IntKind.i64.wrap (k.a.tdiv 2))).tmod 2))) (0 : Int) (3 : Int), Lock.mk (IntKind.i64.wrap ((3 : Int) -
 IntKind.i64.wrap ((1 : Int) + IntKind.i64.wrap ((IntKind.u64.wrap (IntKind.i64.wrap (k.a.tdiv 2))).tmod 2)))) (3 : Int) (3 : Int), Lock.mk (3 : Int) (6 : Int) (3 : Int)] = s.fst.locks ∧ [(0 : Int), (1 : Int), (2 : Int)]
 = s.fst.conds ∧ [[]] = s.fst.progs ∧ (0 : Int) = (↑s.snd : Int) ∧ (builtC s.fst ∧ s.snd ≤ s.fst.progs.length) ∧ True) ∧ (((↑rows.length : Int) == 0) = false → ∃ (s : Config × Nat), IntKind.i64.wrap ((1 : Int) +
 IntKind.i64.wrap ((IntKind.u64.wrap k.a).tmod 2)) = s.fst.engine ∧ IntKind.i64.wrap ((1 : Int) + IntKind.i64.wrap ((IntKind.u64.wrap k.b).tmod 2)) = s.fst.clock ∧ IntKind.i64.wrap ((1 : Int) + IntKind.i64.wrap
 ((IntKind.u64.wrap k.c).tmod 7)) = s.fst.stripes ∧ IntKind.i64.wrap ((32 : Int) - IntKind.i64.wrap (IntKind.i64.wrap ((IntKind.u64.wrap k.d).tmod 4) * 9)) = s.fst.reads ∧ IntKind.i64.wrap ((1 : Int) + IntKind.i64.wrap
 ((IntKind.u64.wrap k.e).tmod 12)) = s.fst.writes ∧ IntKind.i64.wrap ((IntKind.u64.wrap k.f).tmod 4) = s.fst.retry ∧ IntKind.i64.wrap ((20 : Int) + IntKind.i64.wrap ((IntKind.u64.wrap k.g).tmod 60)) = s.fst.fuel ∧
 IntKind.i64.wrap ((IntKind.u64.wrap (IntKind.i64.wrap (k.h.tdiv 4))).tmod 12) = s.fst.most ∧ [(0 : Int), (1 : Int), (2 : Int), (3 : Int), (0 : Int), (1 : Int), (2 : Int), (3 : Int), (0 : Int)] = s.fst.init ∧ [Lock.mk
 (IntKind.i64.wrap ((1 : Int) + IntKind.i64.wrap ((IntKind.u64.wrap (IntKind.i64.wrap (k.a.tdiv 2))).tmod 2))) (0 : Int) (3 : Int), Lock.mk (IntKind.i64.wrap ((3 : Int) - IntKind.i64.wrap ((1 : Int) + IntKind.i64.wrap
 ((IntKind.u64.wrap (IntKind.i64.wrap (k.a.tdiv 2))).tmod 2)))) (3 : Int) (3 : Int), Lock.mk (3 : Int) (6 : Int) (3 : Int)] = s.fst.locks ∧ [(0 : Int), (1 : Int), (2 : Int)] = s.fst.conds ∧ [progL (at5 rows (0 : Int)),
 progL (at5 rows (1 : Int)), progL (at5 rows (2 : Int))] = s.fst.progs ∧ (0 : Int) = (↑s.snd : Int) ∧ (builtC s.fst ∧ s.snd ≤ s.fst.progs.length) ∧ True))) ∧ (decide ((2 : Int) < (↑rows.length : Int)) = false →
 (((↑rows.length : Int) == 0) = true → ∃ (s : Config × Nat), IntKind.i64.wrap ((1 : Int) + IntKind.i64.wrap ((IntKind.u64.wrap k.a).tmod 2)) = s.fst.engine ∧ IntKind.i64.wrap ((1 : Int) + IntKind.i64.wrap
 ((IntKind.u64.wrap k.b).tmod 2)) = s.fst.clock ∧ IntKind.i64.wrap ((1 : Int) + IntKind.i64.wrap ((IntKind.u64.wrap k.c).tmod 7)) = s.fst.stripes ∧ IntKind.i64.wrap ((32 : Int) - IntKind.i64.wrap (IntKind.i64.wrap
 ((IntKind.u64.wrap k.d).tmod 4) * 9)) = s.fst.reads ∧ IntKind.i64.wrap ((1 : Int) + IntKind.i64.wrap ((IntKind.u64.wrap k.e).tmod 12)) = s.fst.writes ∧ IntKind.i64.wrap ((IntKind.u64.wrap k.f).tmod 4) = s.fst.retry ∧
 IntKind.i64.wrap ((20 : Int) + IntKind.i64.wrap ((IntKind.u64.wrap k.g).tmod 60)) = s.fst.fuel ∧ IntKind.i64.wrap ((IntKind.u64.wrap (IntKind.i64.wrap (k.h.tdiv 4))).tmod 12) = s.fst.most ∧ [(0 : Int), (1 : Int), (2 :
 Int), (3 : Int), (0 : Int), (1 : Int), (2 : Int), (3 : Int), (0 : Int)] = s.fst.init ∧ [Lock.mk (IntKind.i64.wrap ((1 : Int) + IntKind.i64.wrap ((IntKind.u64.wrap (IntKind.i64.wrap (k.a.tdiv 2))).tmod 2))) (0 : Int) (3 :
 Int), Lock.mk (IntKind.i64.wrap ((3 : Int) - IntKind.i64.wrap ((1 : Int) + IntKind.i64.wrap ((IntKind.u64.wrap (IntKind.i64.wrap (k.a.tdiv 2))).tmod 2)))) (3 : Int) (3 : Int), Lock.mk (3 : Int) (6 : Int) (3 : Int)] =
 s.fst.locks ∧ [(0 : Int), (1 : Int), (2 : Int)] = s.fst.conds ∧ [[]] = s.fst.progs ∧ (0 : Int) = (↑s.snd : Int) ∧ (builtC s.fst ∧ s.snd ≤ s.fst.progs.length) ∧ True) ∧ (((↑rows.length : Int) == 0) = false → ∃ (s : Config
 × Nat), IntKind.i64.wrap ((1 : Int) + IntKind.i64.wrap ((IntKind.u64.wrap k.a).tmod 2)) = s.fst.engine ∧ IntKind.i64.wrap ((1 : Int) + IntKind.i64.wrap ((IntKind.u64.wrap k.b).tmod 2)) = s.fst.clock ∧ IntKind.i64.wrap
 ((1 : Int) + IntKind.i64.wrap ((IntKind.u64.wrap k.c).tmod 7)) = s.fst.stripes ∧ IntKind.i64.wrap ((32 : Int) - IntKind.i64.wrap (IntKind.i64.wrap ((IntKind.u64.wrap k.d).tmod 4) * 9)) = s.fst.reads ∧ IntKind.i64.wrap
 ((1 : Int) + IntKind.i64.wrap ((IntKind.u64.wrap k.e).tmod 12)) = s.fst.writes ∧ IntKind.i64.wrap ((IntKind.u64.wrap k.f).tmod 4) = s.fst.retry ∧ IntKind.i64.wrap ((20 : Int) + IntKind.i64.wrap ((IntKind.u64.wrap
 k.g).tmod 60)) = s.fst.fuel ∧ IntKind.i64.wrap ((IntKind.u64.wrap (IntKind.i64.wrap (k.h.tdiv 4))).tmod 12) = s.fst.most ∧ [(0 : Int), (1 : Int), (2 : Int), (3 : Int), (0 : Int), (1 : Int), (2 : Int), (3 : Int), (0 :
 Int)] = s.fst.init ∧ [Lock.mk (IntKind.i64.wrap ((1 : Int) + IntKind.i64.wrap ((IntKind.u64.wrap (IntKind.i64.wrap (k.a.tdiv 2))).tmod 2))) (0 : Int) (3 : Int), Lock.mk (IntKind.i64.wrap ((3 : Int) - IntKind.i64.wrap ((1
 : Int) + IntKind.i64.wrap ((IntKind.u64.wrap (IntKind.i64.wrap (k.a.tdiv 2))).tmod 2)))) (3 : Int) (3 : Int), Lock.mk (3 : Int) (6 : Int) (3 : Int)] = s.fst.locks ∧ [(0 : Int), (1 : Int), (2 : Int)] = s.fst.conds ∧
 [progL (at5 rows (0 : Int)), progL (at5 rows (1 : Int))] = s.fst.progs ∧ (0 : Int) = (↑s.snd : Int) ∧ (builtC s.fst ∧ s.snd ≤ s.fst.progs.length) ∧ True))) ∧ (decide ((1 : Int) < (↑rows.length : Int)) = false →
 (((↑rows.length : Int) == 0) = true → ∃ (s : Config × Nat), IntKind.i64.wrap ((1 : Int) + IntKind.i64.wrap ((IntKind.u64.wrap k.a).tmod 2)) = s.fst.engine ∧ IntKind.i64.wrap ((1 : Int) + IntKind.i64.wrap
 ((IntKind.u64.wrap k.b).tmod 2)) = s.fst.clock ∧ IntKind.i64.wrap ((1 : Int) + IntKind.i64.wrap ((IntKind.u64.wrap k.c).tmod 7)) = s.fst.stripes ∧ IntKind.i64.wrap ((32 : Int) - IntKind.i64.wrap (IntKind.i64.wrap
 ((IntKind.u64.wrap k.d).tmod 4) * 9)) = s.fst.reads ∧ IntKind.i64.wrap ((1 : Int) + IntKind.i64.wrap ((IntKind.u64.wrap k.e).tmod 12)) = s.fst.writes ∧ IntKind.i64.wrap ((IntKind.u64.wrap k.f).tmod 4) = s.fst.retry ∧
 IntKind.i64.wrap ((20 : Int) + IntKind.i64.wrap ((IntKind.u64.wrap k.g).tmod 60)) = s.fst.fuel ∧ IntKind.i64.wrap ((IntKind.u64.wrap (IntKind.i64.wrap (k.h.tdiv 4))).tmod 12) = s.fst.most ∧ [(0 : Int), (1 : Int), (2 :
 Int), (3 : Int), (0 : Int), (1 : Int), (2 : Int), (3 : Int), (0 : Int)] = s.fst.init ∧ [Lock.mk (IntKind.i64.wrap ((1 : Int) + IntKind.i64.wrap ((IntKind.u64.wrap (IntKind.i64.wrap (k.a.tdiv 2))).tmod 2))) (0 : Int) (3 :
 Int), Lock.mk (IntKind.i64.wrap ((3 : Int) - IntKind.i64.wrap ((1 : Int) + IntKind.i64.wrap ((IntKind.u64.wrap (IntKind.i64.wrap (k.a.tdiv 2))).tmod 2)))) (3 : Int) (3 : Int), Lock.mk (3 : Int) (6 : Int) (3 : Int)] =
 s.fst.locks ∧ [(0 : Int), (1 : Int), (2 : Int)] = s.fst.conds ∧ [[]] = s.fst.progs ∧ (0 : Int) = (↑s.snd : Int) ∧ (builtC s.fst ∧ s.snd ≤ s.fst.progs.length) ∧ True) ∧ (((↑rows.length : Int) == 0) = false → ∃ (s : Config
 × Nat), IntKind.i64.wrap ((1 : Int) + IntKind.i64.wrap ((IntKind.u64.wrap k.a).tmod 2)) = s.fst.engine ∧ IntKind.i64.wrap ((1 : Int) + IntKind.i64.wrap ((IntKind.u64.wrap k.b).tmod 2)) = s.fst.clock ∧ IntKind.i64.wrap
 ((1 : Int) + IntKind.i64.wrap ((IntKind.u64.wrap k.c).tmod 7)) = s.fst.stripes ∧ IntKind.i64.wrap ((32 : Int) - IntKind.i64.wrap (IntKind.i64.wrap ((IntKind.u64.wrap k.d).tmod 4) * 9)) = s.fst.reads ∧ IntKind.i64.wrap
 ((1 : Int) + IntKind.i64.wrap ((IntKind.u64.wrap k.e).tmod 12)) = s.fst.writes ∧ IntKind.i64.wrap ((IntKind.u64.wrap k.f).tmod 4) = s.fst.retry ∧ IntKind.i64.wrap ((20 : Int) + IntKind.i64.wrap ((IntKind.u64.wrap
 k.g).tmod 60)) = s.fst.fuel ∧ IntKind.i64.wrap ((IntKind.u64.wrap (IntKind.i64.wrap (k.h.tdiv 4))).tmod 12) = s.fst.most ∧ [(0 : Int), (1 : Int), (2 : Int), (3 : Int), (0 : Int), (1 : Int), (2 : Int), (3 : Int), (0 :
 Int)] = s.fst.init ∧ [Lock.mk (IntKind.i64.wrap ((1 : Int) + IntKind.i64.wrap ((IntKind.u64.wrap (IntKind.i64.wrap (k.a.tdiv 2))).tmod 2))) (0 : Int) (3 : Int), Lock.mk (IntKind.i64.wrap ((3 : Int) - IntKind.i64.wrap ((1
 : Int) + IntKind.i64.wrap ((IntKind.u64.wrap (IntKind.i64.wrap (k.a.tdiv 2))).tmod 2)))) (3 : Int) (3 : Int), Lock.mk (3 : Int) (6 : Int) (3 : Int)] = s.fst.locks ∧ [(0 : Int), (1 : Int), (2 : Int)] = s.fst.conds ∧
 [progL (at5 rows (0 : Int))] = s.fst.progs ∧ (0 : Int) = (↑s.snd : Int) ∧ (builtC s.fst ∧ s.snd ≤ s.fst.progs.length) ∧ True))) ∧ (decide ((0 : Int) < (↑rows.length : Int)) = false → (((↑rows.length : Int) == 0) = true →
 ∃ (s : Config × Nat), IntKind.i64.wrap ((1 : Int) + IntKind.i64.wrap ((IntKind.u64.wrap k.a).tmod 2)) = s.fst.engine ∧ IntKind.i64.wrap ((1 : Int) + IntKind.i64.wrap ((IntKind.u64.wrap k.b).tmod 2)) = s.fst.clock ∧
 IntKind.i64.wrap ((1 : Int) + IntKind.i64.wrap ((IntKind.u64.wrap k.c).tmod 7)) = s.fst.stripes ∧ IntKind.i64.wrap ((32 : Int) - IntKind.i64.wrap (IntKind.i64.wrap ((IntKind.u64.wrap k.d).tmod 4) * 9)) = s.fst.reads ∧
 IntKind.i64.wrap ((1 : Int) + IntKind.i64.wrap ((IntKind.u64.wrap k.e).tmod 12)) = s.fst.writes ∧ IntKind.i64.wrap ((IntKind.u64.wrap k.f).tmod 4) = s.fst.retry ∧ IntKind.i64.wrap ((20 : Int) + IntKind.i64.wrap
 ((IntKind.u64.wrap k.g).tmod 60)) = s.fst.fuel ∧ IntKind.i64.wrap ((IntKind.u64.wrap (IntKind.i64.wrap (k.h.tdiv 4))).tmod 12) = s.fst.most ∧ [(0 : Int), (1 : Int), (2 : Int), (3 : Int), (0 : Int), (1 : Int), (2 : Int),
 (3 : Int), (0 : Int)] = s.fst.init ∧ [Lock.mk (IntKind.i64.wrap ((1 : Int) + IntKind.i64.wrap ((IntKind.u64.wrap (IntKind.i64.wrap (k.a.tdiv 2))).tmod 2))) (0 : Int) (3 : Int), Lock.mk (IntKind.i64.wrap ((3 : Int) -
 IntKind.i64.wrap ((1 : Int) + IntKind.i64.wrap ((IntKind.u64.wrap (IntKind.i64.wrap (k.a.tdiv 2))).tmod 2)))) (3 : Int) (3 : Int), Lock.mk (3 : Int) (6 : Int) (3 : Int)] = s.fst.locks ∧ [(0 : Int), (1 : Int), (2 : Int)]
 = s.fst.conds ∧ [[]] = s.fst.progs ∧ (0 : Int) = (↑s.snd : Int) ∧ (builtC s.fst ∧ s.snd ≤ s.fst.progs.length) ∧ True) ∧ (((↑rows.length : Int) == 0) = false → ∃ (s : Config × Nat), IntKind.i64.wrap ((1 : Int) +
 IntKind.i64.wrap ((IntKind.u64.wrap k.a).tmod 2)) = s.fst.engine ∧ IntKind.i64.wrap ((1 : Int) + IntKind.i64.wrap ((IntKind.u64.wrap k.b).tmod 2)) = s.fst.clock ∧ IntKind.i64.wrap ((1 : Int) + IntKind.i64.wrap
 ((IntKind.u64.wrap k.c).tmod 7)) = s.fst.stripes ∧ IntKind.i64.wrap ((32 : Int) - IntKind.i64.wrap (IntKind.i64.wrap ((IntKind.u64.wrap k.d).tmod 4) * 9)) = s.fst.reads ∧ IntKind.i64.wrap ((1 : Int) + IntKind.i64.wrap
 ((IntKind.u64.wrap k.e).tmod 12)) = s.fst.writes ∧ IntKind.i64.wrap ((IntKind.u64.wrap k.f).tmod 4) = s.fst.retry ∧ IntKind.i64.wrap ((20 : Int) + IntKind.i64.wrap ((IntKind.u64.wrap k.g).tmod 60)) = s.fst.fuel ∧
 IntKind.i64.wrap ((IntKind.u64.wrap (IntKind.i64.wrap (k.h.tdiv 4))).tmod 12) = s.fst.most ∧ [(0 : Int), (1 : Int), (2 : Int), (3 : Int), (0 : Int), (1 : Int), (2 : Int), (3 : Int), (0 : Int)] = s.fst.init ∧ [Lock.mk
 (IntKind.i64.wrap ((1 : Int) + IntKind.i64.wrap ((IntKind.u64.wrap (IntKind.i64.wrap (k.a.tdiv 2))).tmod 2))) (0 : Int) (3 : Int), Lock.mk (IntKind.i64.wrap ((3 : Int) - IntKind.i64.wrap ((1 : Int) + IntKind.i64.wrap
 ((IntKind.u64.wrap (IntKind.i64.wrap (k.a.tdiv 2))).tmod 2)))) (3 : Int) (3 : Int), Lock.mk (3 : Int) (6 : Int) (3 : Int)] = s.fst.locks ∧ [(0 : Int), (1 : Int), (2 : Int)] = s.fst.conds ∧ [] = s.fst.progs ∧ (0 : Int) =
 (↑s.snd : Int) ∧ (builtC s.fst ∧ s.snd ≤ s.fst.progs.length) ∧ True)))) ∧ ((IntKind.i64.wrap ((IntKind.u64.wrap k.h).tmod 4) == 1) = false → (decide (IntKind.i64.wrap ((IntKind.u64.wrap k.e).tmod 5) > 0) = true → (decide
 ((0 : Int) < (↑rows.length : Int)) = true → ((0 : Int) ≤ 0 ∧ (0 : Int) < (↑rows.length : Int)) ∧ lenOk (at5 rows (0 : Int)) ∧ (decide ((1 : Int) < (↑rows.length : Int)) = true → ((0 : Int) ≤ 1 ∧ (1 : Int) < (↑rows.length
 : Int)) ∧ lenOk (at5 rows (1 : Int)) ∧ (decide ((2 : Int) < (↑rows.length : Int)) = true → ((0 : Int) ≤ 2 ∧ (2 : Int) < (↑rows.length : Int)) ∧ lenOk (at5 rows (2 : Int)) ∧ (decide ((3 : Int) < (↑rows.length : Int)) =
 true → (((↑rows.length : Int) == 0) = true → ∃ (s : Config × Nat), IntKind.i64.wrap ((1 : Int) + IntKind.i64.wrap ((IntKind.u64.wrap k.a).tmod 2)) = s.fst.engine ∧ IntKind.i64.wrap ((1 : Int) + IntKind.i64.wrap
 ((IntKind.u64.wrap k.b).tmod 2)) = s.fst.clock ∧ IntKind.i64.wrap ((1 : Int) + IntKind.i64.wrap ((IntKind.u64.wrap k.c).tmod 7)) = s.fst.stripes ∧ IntKind.i64.wrap ((32 : Int) - IntKind.i64.wrap (IntKind.i64.wrap
 ((IntKind.u64.wrap k.d).tmod 4) * 9)) = s.fst.reads ∧ (32 : Int) = s.fst.writes ∧ IntKind.i64.wrap ((IntKind.u64.wrap k.f).tmod 4) = s.fst.retry ∧ IntKind.i64.wrap ((20 : Int) + IntKind.i64.wrap ((IntKind.u64.wrap
 k.g).tmod 60)) = s.fst.fuel ∧ (1073741824 : Int) = s.fst.most ∧ [(0 : Int), (1 : Int), (2 : Int), (3 : Int), (0 : Int), (1 : Int), (2 : Int), (3 : Int), (0 : Int)] = s.fst.init ∧ [Lock.mk (IntKind.i64.wrap ((1 : Int) +
 IntKind.i64.wrap ((IntKind.u64.wrap (IntKind.i64.wrap (k.a.tdiv 2))).tmod 2))) (0 : Int) (3 : Int), Lock.mk (IntKind.i64.wrap ((3 : Int) - IntKind.i64.wrap ((1 : Int) + IntKind.i64.wrap ((IntKind.u64.wrap
 (IntKind.i64.wrap (k.a.tdiv 2))).tmod 2)))) (3 : Int) (3 : Int), Lock.mk (3 : Int) (6 : Int) (3 : Int)] = s.fst.locks ∧ [(0 : Int), (1 : Int), (2 : Int)] = s.fst.conds ∧ [[]] = s.fst.progs ∧ (0 : Int) = (↑s.snd : Int) ∧
 (builtC s.fst ∧ s.snd ≤ s.fst.progs.length) ∧ True) ∧ (((↑rows.length : Int) == 0) = false → ∃ (s : Config × Nat), IntKind.i64.wrap ((1 : Int) + IntKind.i64.wrap ((IntKind.u64.wrap k.a).tmod 2)) = s.fst.engine ∧
 IntKind.i64.wrap ((1 : Int) + IntKind.i64.wrap ((IntKind.u64.wrap k.b).tmod 2)) = s.fst.clock ∧ IntKind.i64.wrap ((1 : Int) + IntKind.i64.wrap ((IntKind.u64.wrap k.c).tmod 7)) = s.fst.stripes ∧ IntKind.i64.wrap ((32 :
 Int) - IntKind.i64.wrap (IntKind.i64.wrap ((IntKind.u64.wrap k.d).tmod 4) * 9)) = s.fst.reads ∧ (32 : Int) = s.fst.writes ∧ IntKind.i64.wrap ((IntKind.u64.wrap k.f).tmod 4) = s.fst.retry ∧ IntKind.i64.wrap ((20 : Int) +
 IntKind.i64.wrap ((IntKind.u64.wrap k.g).tmod 60)) = s.fst.fuel ∧ (1073741824 : Int) = s.fst.most ∧ [(0 : Int), (1 : Int), (2 : Int), (3 : Int), (0 : Int), (1 : Int), (2 : Int), (3 : Int), (0 : Int)] = s.fst.init ∧
 [Lock.mk (IntKind.i64.wrap ((1 : Int) + IntKind.i64.wrap ((IntKind.u64.wrap (IntKind.i64.wrap (k.a.tdiv 2))).tmod 2))) (0 : Int) (3 : Int), Lock.mk (IntKind.i64.wrap ((3 : Int) - IntKind.i64.wrap ((1 : Int) +
 IntKind.i64.wrap ((IntKind.u64.wrap (IntKind.i64.wrap (k.a.tdiv 2))).tmod 2)))) (3 : Int) (3 : Int), Lock.mk (3 : Int) (6 : Int) (3 : Int)] = s.fst.locks ∧ [(0 : Int), (1 : Int), (2 : Int)] = s.fst.conds ∧ [progL (at5
 rows (0 : Int)), progL (at5 rows (1 : Int)), progL (at5 rows (2 : Int))] = s.fst.progs ∧ (0 : Int) = (↑s.snd : Int) ∧ (builtC s.fst ∧ s.snd ≤ s.fst.progs.length) ∧ True)) ∧ (decide ((3 : Int) < (↑rows.length : Int)) =
 false → (((↑rows.length : Int) == 0) = true → ∃ (s : Config × Nat), IntKind.i64.wrap ((1 : Int) + IntKind.i64.wrap ((IntKind.u64.wrap k.a).tmod 2)) = s.fst.engine ∧ IntKind.i64.wrap ((1 : Int) + IntKind.i64.wrap
 ((IntKind.u64.wrap k.b).tmod 2)) = s.fst.clock ∧ IntKind.i64.wrap ((1 : Int) + IntKind.i64.wrap ((IntKind.u64.wrap k.c).tmod 7)) = s.fst.stripes ∧ IntKind.i64.wrap ((32 : Int) - IntKind.i64.wrap (IntKind.i64.wrap
 ((IntKind.u64.wrap k.d).tmod 4) * 9)) = s.fst.reads ∧ (32 : Int) = s.fst.writes ∧ IntKind.i64.wrap ((IntKind.u64.wrap k.f).tmod 4) = s.fst.retry ∧ IntKind.i64.wrap ((20 : Int) + IntKind.i64.wrap ((IntKind.u64.wrap
 k.g).tmod 60)) = s.fst.fuel ∧ (1073741824 : Int) = s.fst.most ∧ [(0 : Int), (1 : Int), (2 : Int), (3 : Int), (0 : Int), (1 : Int), (2 : Int), (3 : Int), (0 : Int)] = s.fst.init ∧ [Lock.mk (IntKind.i64.wrap ((1 : Int) +
 IntKind.i64.wrap ((IntKind.u64.wrap (IntKind.i64.wrap (k.a.tdiv 2))).tmod 2))) (0 : Int) (3 : Int), Lock.mk (IntKind.i64.wrap ((3 : Int) - IntKind.i64.wrap ((1 : Int) + IntKind.i64.wrap ((IntKind.u64.wrap
 (IntKind.i64.wrap (k.a.tdiv 2))).tmod 2)))) (3 : Int) (3 : Int), Lock.mk (3 : Int) (6 : Int) (3 : Int)] = s.fst.locks ∧ [(0 : Int), (1 : Int), (2 : Int)] = s.fst.conds ∧ [[]] = s.fst.progs ∧ (0 : Int) = (↑s.snd : Int) ∧
 (builtC s.fst ∧ s.snd ≤ s.fst.progs.length) ∧ True) ∧ (((↑rows.length : Int) == 0) = false → ∃ (s : Config × Nat), IntKind.i64.wrap ((1 : Int) + IntKind.i64.wrap ((IntKind.u64.wrap k.a).tmod 2)) = s.fst.engine ∧
 IntKind.i64.wrap ((1 : Int) + IntKind.i64.wrap ((IntKind.u64.wrap k.b).tmod 2)) = s.fst.clock ∧ IntKind.i64.wrap ((1 : Int) + IntKind.i64.wrap ((IntKind.u64.wrap k.c).tmod 7)) = s.fst.stripes ∧ IntKind.i64.wrap ((32 :
 Int) - IntKind.i64.wrap (IntKind.i64.wrap ((IntKind.u64.wrap k.d).tmod 4) * 9)) = s.fst.reads ∧ (32 : Int) = s.fst.writes ∧ IntKind.i64.wrap ((IntKind.u64.wrap k.f).tmod 4) = s.fst.retry ∧ IntKind.i64.wrap ((20 : Int) +
 IntKind.i64.wrap ((IntKind.u64.wrap k.g).tmod 60)) = s.fst.fuel ∧ (1073741824 : Int) = s.fst.most ∧ [(0 : Int), (1 : Int), (2 : Int), (3 : Int), (0 : Int), (1 : Int), (2 : Int), (3 : Int), (0 : Int)] = s.fst.init ∧
 [Lock.mk (IntKind.i64.wrap ((1 : Int) + IntKind.i64.wrap ((IntKind.u64.wrap (IntKind.i64.wrap (k.a.tdiv 2))).tmod 2))) (0 : Int) (3 : Int), Lock.mk (IntKind.i64.wrap ((3 : Int) - IntKind.i64.wrap ((1 : Int) +
 IntKind.i64.wrap ((IntKind.u64.wrap (IntKind.i64.wrap (k.a.tdiv 2))).tmod 2)))) (3 : Int) (3 : Int), Lock.mk (3 : Int) (6 : Int) (3 : Int)] = s.fst.locks ∧ [(0 : Int), (1 : Int), (2 : Int)] = s.fst.conds ∧ [progL (at5
 rows (0 : Int)), progL (at5 rows (1 : Int)), progL (at5 rows (2 : Int))] = s.fst.progs ∧ (0 : Int) = (↑s.snd : Int) ∧ (builtC s.fst ∧ s.snd ≤ s.fst.progs.length) ∧ True))) ∧ (decide ((2 : Int) < (↑rows.length : Int)) =
 false → (((↑rows.length : Int) == 0) = true → ∃ (s : Config × Nat), IntKind.i64.wrap ((1 : Int) + IntKind.i64.wrap ((IntKind.u64.wrap k.a).tmod 2)) = s.fst.engine ∧ IntKind.i64.wrap ((1 : Int) + IntKind.i64.wrap
 ((IntKind.u64.wrap k.b).tmod 2)) = s.fst.clock ∧ IntKind.i64.wrap ((1 : Int) + IntKind.i64.wrap ((IntKind.u64.wrap k.c).tmod 7)) = s.fst.stripes ∧ IntKind.i64.wrap ((32 : Int) - IntKind.i64.wrap (IntKind.i64.wrap
 ((IntKind.u64.wrap k.d).tmod 4) * 9)) = s.fst.reads ∧ (32 : Int) = s.fst.writes ∧ IntKind.i64.wrap ((IntKind.u64.wrap k.f).tmod 4) = s.fst.retry ∧ IntKind.i64.wrap ((20 : Int) + IntKind.i64.wrap ((IntKind.u64.wrap
 k.g).tmod 60)) = s.fst.fuel ∧ (1073741824 : Int) = s.fst.most ∧ [(0 : Int), (1 : Int), (2 : Int), (3 : Int), (0 : Int), (1 : Int), (2 : Int), (3 : Int), (0 : Int)] = s.fst.init ∧ [Lock.mk (IntKind.i64.wrap ((1 : Int) +
 IntKind.i64.wrap ((IntKind.u64.wrap (IntKind.i64.wrap (k.a.tdiv 2))).tmod 2))) (0 : Int) (3 : Int), Lock.mk (IntKind.i64.wrap ((3 : Int) - IntKind.i64.wrap ((1 : Int) + IntKind.i64.wrap ((IntKind.u64.wrap
 (IntKind.i64.wrap (k.a.tdiv 2))).tmod 2)))) (3 : Int) (3 : Int), Lock.mk (3 : Int) (6 : Int) (3 : Int)] = s.fst.locks ∧ [(0 : Int), (1 : Int), (2 : Int)] = s.fst.conds ∧ [[]] = s.fst.progs ∧ (0 : Int) = (↑s.snd : Int) ∧
 (builtC s.fst ∧ s.snd ≤ s.fst.progs.length) ∧ True) ∧ (((↑rows.length : Int) == 0) = false → ∃ (s : Config × Nat), IntKind.i64.wrap ((1 : Int) + IntKind.i64.wrap ((IntKind.u64.wrap k.a).tmod 2)) = s.fst.engine ∧
 IntKind.i64.wrap ((1 : Int) + IntKind.i64.wrap ((IntKind.u64.wrap k.b).tmod 2)) = s.fst.clock ∧ IntKind.i64.wrap ((1 : Int) + IntKind.i64.wrap ((IntKind.u64.wrap k.c).tmod 7)) = s.fst.stripes ∧ IntKind.i64.wrap ((32 :
 Int) - IntKind.i64.wrap (IntKind.i64.wrap ((IntKind.u64.wrap k.d).tmod 4) * 9)) = s.fst.reads ∧ (32 : Int) = s.fst.writes ∧ IntKind.i64.wrap ((IntKind.u64.wrap k.f).tmod 4) = s.fst.retry ∧ IntKind.i64.wrap ((20 : Int) +
 IntKind.i64.wrap ((IntKind.u64.wrap k.g).tmod 60)) = s.fst.fuel ∧ (1073741824 : Int) = s.fst.most ∧ [(0 : Int), (1 : Int), (2 : Int), (3 : Int), (0 : Int), (1 : Int), (2 : Int), (3 : Int), (0 : Int)] = s.fst.init ∧
 [Lock.mk (IntKind.i64.wrap ((1 : Int) + IntKind.i64.wrap ((IntKind.u64.wrap (IntKind.i64.wrap (k.a.tdiv 2))).tmod 2))) (0 : Int) (3 : Int), Lock.mk (IntKind.i64.wrap ((3 : Int) - IntKind.i64.wrap ((1 : Int) +
 IntKind.i64.wrap ((IntKind.u64.wrap (IntKind.i64.wrap (k.a.tdiv 2))).tmod 2)))) (3 : Int) (3 : Int), Lock.mk (3 : Int) (6 : Int) (3 : Int)] = s.fst.locks ∧ [(0 : Int), (1 : Int), (2 : Int)] = s.fst.conds ∧ [progL (at5
 rows (0 : Int)), progL (at5 rows (1 : Int))] = s.fst.progs ∧ (0 : Int) = (↑s.snd : Int) ∧ (builtC s.fst ∧ s.snd ≤ s.fst.progs.length) ∧ True))) ∧ (decide ((1 : Int) < (↑rows.length : Int)) = false → (((↑rows.length :
 Int) == 0) = true → ∃ (s : Config × Nat), IntKind.i64.wrap ((1 : Int) + IntKind.i64.wrap ((IntKind.u64.wrap k.a).tmod 2)) = s.fst.engine ∧ IntKind.i64.wrap ((1 : Int) + IntKind.i64.wrap ((IntKind.u64.wrap k.b).tmod 2)) =
 s.fst.clock ∧ IntKind.i64.wrap ((1 : Int) + IntKind.i64.wrap ((IntKind.u64.wrap k.c).tmod 7)) = s.fst.stripes ∧ IntKind.i64.wrap ((32 : Int) - IntKind.i64.wrap (IntKind.i64.wrap ((IntKind.u64.wrap k.d).tmod 4) * 9)) =
 s.fst.reads ∧ (32 : Int) = s.fst.writes ∧ IntKind.i64.wrap ((IntKind.u64.wrap k.f).tmod 4) = s.fst.retry ∧ IntKind.i64.wrap ((20 : Int) + IntKind.i64.wrap ((IntKind.u64.wrap k.g).tmod 60)) = s.fst.fuel ∧ (1073741824 :
 Int) = s.fst.most ∧ [(0 : Int), (1 : Int), (2 : Int), (3 : Int), (0 : Int), (1 : Int), (2 : Int), (3 : Int), (0 : Int)] = s.fst.init ∧ [Lock.mk (IntKind.i64.wrap ((1 : Int) + IntKind.i64.wrap ((IntKind.u64.wrap
 (IntKind.i64.wrap (k.a.tdiv 2))).tmod 2))) (0 : Int) (3 : Int), Lock.mk (IntKind.i64.wrap ((3 : Int) - IntKind.i64.wrap ((1 : Int) + IntKind.i64.wrap ((IntKind.u64.wrap (IntKind.i64.wrap (k.a.tdiv 2))).tmod 2)))) (3 :
 Int) (3 : Int), Lock.mk (3 : Int) (6 : Int) (3 : Int)] = s.fst.locks ∧ [(0 : Int), (1 : Int), (2 : Int)] = s.fst.conds ∧ [[]] = s.fst.progs ∧ (0 : Int) = (↑s.snd : Int) ∧ (builtC s.fst ∧ s.snd ≤ s.fst.progs.length) ∧
 True) ∧ (((↑rows.length : Int) == 0) = false → ∃ (s : Config × Nat), IntKind.i64.wrap ((1 : Int) + IntKind.i64.wrap ((IntKind.u64.wrap k.a).tmod 2)) = s.fst.engine ∧ IntKind.i64.wrap ((1 : Int) + IntKind.i64.wrap
 ((IntKind.u64.wrap k.b).tmod 2)) = s.fst.clock ∧ IntKind.i64.wrap ((1 : Int) + IntKind.i64.wrap ((IntKind.u64.wrap k.c).tmod 7)) = s.fst.stripes ∧ IntKind.i64.wrap ((32 : Int) - IntKind.i64.wrap (IntKind.i64.wrap
 ((IntKind.u64.wrap k.d).tmod 4) * 9)) = s.fst.reads ∧ (32 : Int) = s.fst.writes ∧ IntKind.i64.wrap ((IntKind.u64.wrap k.f).tmod 4) = s.fst.retry ∧ IntKind.i64.wrap ((20 : Int) + IntKind.i64.wrap ((IntKind.u64.wrap
 k.g).tmod 60)) = s.fst.fuel ∧ (1073741824 : Int) = s.fst.most ∧ [(0 : Int), (1 : Int), (2 : Int), (3 : Int), (0 : Int), (1 : Int), (2 : Int), (3 : Int), (0 : Int)] = s.fst.init ∧ [Lock.mk (IntKind.i64.wrap ((1 : Int) +
 IntKind.i64.wrap ((IntKind.u64.wrap (IntKind.i64.wrap (k.a.tdiv 2))).tmod 2))) (0 : Int) (3 : Int), Lock.mk (IntKind.i64.wrap ((3 : Int) - IntKind.i64.wrap ((1 : Int) + IntKind.i64.wrap ((IntKind.u64.wrap
 (IntKind.i64.wrap (k.a.tdiv 2))).tmod 2)))) (3 : Int) (3 : Int), Lock.mk (3 : Int) (6 : Int) (3 : Int)] = s.fst.locks ∧ [(0 : Int), (1 : Int), (2 : Int)] = s.fst.conds ∧ [progL (at5 rows (0 : Int))] = s.fst.progs ∧ (0 :
 Int) = (↑s.snd : Int) ∧ (builtC s.fst ∧ s.snd ≤ s.fst.progs.length) ∧ True))) ∧ (decide ((0 : Int) < (↑rows.length : Int)) = false → (((↑rows.length : Int) == 0) = true → ∃ (s : Config × Nat), IntKind.i64.wrap ((1 : Int)
 + IntKind.i64.wrap ((IntKind.u64.wrap k.a).tmod 2)) = s.fst.engine ∧ IntKind.i64.wrap ((1 : Int) + IntKind.i64.wrap ((IntKind.u64.wrap k.b).tmod 2)) = s.fst.clock ∧ IntKind.i64.wrap ((1 : Int) + IntKind.i64.wrap
 ((IntKind.u64.wrap k.c).tmod 7)) = s.fst.stripes ∧ IntKind.i64.wrap ((32 : Int) - IntKind.i64.wrap (IntKind.i64.wrap ((IntKind.u64.wrap k.d).tmod 4) * 9)) = s.fst.reads ∧ (32 : Int) = s.fst.writes ∧ IntKind.i64.wrap
 ((IntKind.u64.wrap k.f).tmod 4) = s.fst.retry ∧ IntKind.i64.wrap ((20 : Int) + IntKind.i64.wrap ((IntKind.u64.wrap k.g).tmod 60)) = s.fst.fuel ∧ (1073741824 : Int) = s.fst.most ∧ [(0 : Int), (1 : Int), (2 : Int), (3 :
 Int), (0 : Int), (1 : Int), (2 : Int), (3 : Int), (0 : Int)] = s.fst.init ∧ [Lock.mk (IntKind.i64.wrap ((1 : Int) + IntKind.i64.wrap ((IntKind.u64.wrap (IntKind.i64.wrap (k.a.tdiv 2))).tmod 2))) (0 : Int) (3 : Int),
 Lock.mk (IntKind.i64.wrap ((3 : Int) - IntKind.i64.wrap ((1 : Int) + IntKind.i64.wrap ((IntKind.u64.wrap (IntKind.i64.wrap (k.a.tdiv 2))).tmod 2)))) (3 : Int) (3 : Int), Lock.mk (3 : Int) (6 : Int) (3 : Int)] =
 s.fst.locks ∧ [(0 : Int), (1 : Int), (2 : Int)] = s.fst.conds ∧ [[]] = s.fst.progs ∧ (0 : Int) = (↑s.snd : Int) ∧ (builtC s.fst ∧ s.snd ≤ s.fst.progs.length) ∧ True) ∧ (((↑rows.length : Int) == 0) = false → ∃ (s : Config
 × Nat), IntKind.i64.wrap ((1 : Int) + IntKind.i64.wrap ((IntKind.u64.wrap k.a).tmod 2)) = s.fst.engine ∧ IntKind.i64.wrap ((1 : Int) + IntKind.i64.wrap ((IntKind.u64.wrap k.b).tmod 2)) = s.fst.clock ∧ IntKind.i64.wrap
 ((1 : Int) + IntKind.i64.wrap ((IntKind.u64.wrap k.c).tmod 7)) = s.fst.stripes ∧ IntKind.i64.wrap ((32 : Int) - IntKind.i64.wrap (IntKind.i64.wrap ((IntKind.u64.wrap k.d).tmod 4) * 9)) = s.fst.reads ∧ (32 : Int) =
 s.fst.writes ∧ IntKind.i64.wrap ((IntKind.u64.wrap k.f).tmod 4) = s.fst.retry ∧ IntKind.i64.wrap ((20 : Int) + IntKind.i64.wrap ((IntKind.u64.wrap k.g).tmod 60)) = s.fst.fuel ∧ (1073741824 : Int) = s.fst.most ∧ [(0 :
 Int), (1 : Int), (2 : Int), (3 : Int), (0 : Int), (1 : Int), (2 : Int), (3 : Int), (0 : Int)] = s.fst.init ∧ [Lock.mk (IntKind.i64.wrap ((1 : Int) + IntKind.i64.wrap ((IntKind.u64.wrap (IntKind.i64.wrap (k.a.tdiv
 2))).tmod 2))) (0 : Int) (3 : Int), Lock.mk (IntKind.i64.wrap ((3 : Int) - IntKind.i64.wrap ((1 : Int) + IntKind.i64.wrap ((IntKind.u64.wrap (IntKind.i64.wrap (k.a.tdiv 2))).tmod 2)))) (3 : Int) (3 : Int), Lock.mk (3 :
 Int) (6 : Int) (3 : Int)] = s.fst.locks ∧ [(0 : Int), (1 : Int), (2 : Int)] = s.fst.conds ∧ [] = s.fst.progs ∧ (0 : Int) = (↑s.snd : Int) ∧ (builtC s.fst ∧ s.snd ≤ s.fst.progs.length) ∧ True))) ∧ (decide
 (IntKind.i64.wrap ((IntKind.u64.wrap k.e).tmod 5) > 0) = false → (decide ((0 : Int) < (↑rows.length : Int)) = true → ((0 : Int) ≤ 0 ∧ (0 : Int) < (↑rows.length : Int)) ∧ lenOk (at5 rows (0 : Int)) ∧ (decide ((1 : Int) <
 (↑rows.length : Int)) = true → ((0 : Int) ≤ 1 ∧ (1 : Int) < (↑rows.length : Int)) ∧ lenOk (at5 rows (1 : Int)) ∧ (decide ((2 : Int) < (↑rows.length : Int)) = true → ((0 : Int) ≤ 2 ∧ (2 : Int) < (↑rows.length : Int)) ∧
 lenOk (at5 rows (2 : Int)) ∧ (decide ((3 : Int) < (↑rows.length : Int)) = true → (((↑rows.length : Int) == 0) = true → ∃ (s : Config × Nat), IntKind.i64.wrap ((1 : Int) + IntKind.i64.wrap ((IntKind.u64.wrap k.a).tmod 2))
 = s.fst.engine ∧ IntKind.i64.wrap ((1 : Int) + IntKind.i64.wrap ((IntKind.u64.wrap k.b).tmod 2)) = s.fst.clock ∧ IntKind.i64.wrap ((1 : Int) + IntKind.i64.wrap ((IntKind.u64.wrap k.c).tmod 7)) = s.fst.stripes ∧
 IntKind.i64.wrap ((32 : Int) - IntKind.i64.wrap (IntKind.i64.wrap ((IntKind.u64.wrap k.d).tmod 4) * 9)) = s.fst.reads ∧ IntKind.i64.wrap ((1 : Int) + IntKind.i64.wrap ((IntKind.u64.wrap k.e).tmod 12)) = s.fst.writes ∧
 IntKind.i64.wrap ((IntKind.u64.wrap k.f).tmod 4) = s.fst.retry ∧ IntKind.i64.wrap ((20 : Int) + IntKind.i64.wrap ((IntKind.u64.wrap k.g).tmod 60)) = s.fst.fuel ∧ (1073741824 : Int) = s.fst.most ∧ [(0 : Int), (1 : Int),
 (2 : Int), (3 : Int), (0 : Int), (1 : Int), (2 : Int), (3 : Int), (0 : Int)] = s.fst.init ∧ [Lock.mk (IntKind.i64.wrap ((1 : Int) + IntKind.i64.wrap ((IntKind.u64.wrap (IntKind.i64.wrap (k.a.tdiv 2))).tmod 2))) (0 : Int)
 (3 : Int), Lock.mk (IntKind.i64.wrap ((3 : Int) - IntKind.i64.wrap ((1 : Int) + IntKind.i64.wrap ((IntKind.u64.wrap (IntKind.i64.wrap (k.a.tdiv 2))).tmod 2)))) (3 : Int) (3 : Int), Lock.mk (3 : Int) (6 : Int) (3 : Int)]
 = s.fst.locks ∧ [(0 : Int), (1 : Int), (2 : Int)] = s.fst.conds ∧ [[]] = s.fst.progs ∧ (0 : Int) = (↑s.snd : Int) ∧ (builtC s.fst ∧ s.snd ≤ s.fst.progs.length) ∧ True) ∧ (((↑rows.length : Int) == 0) = false → ∃ (s :
 Config × Nat), IntKind.i64.wrap ((1 : Int) + IntKind.i64.wrap ((IntKind.u64.wrap k.a).tmod 2)) = s.fst.engine ∧ IntKind.i64.wrap ((1 : Int) + IntKind.i64.wrap ((IntKind.u64.wrap k.b).tmod 2)) = s.fst.clock ∧
 IntKind.i64.wrap ((1 : Int) + IntKind.i64.wrap ((IntKind.u64.wrap k.c).tmod 7)) = s.fst.stripes ∧ IntKind.i64.wrap ((32 : Int) - IntKind.i64.wrap (IntKind.i64.wrap ((IntKind.u64.wrap k.d).tmod 4) * 9)) = s.fst.reads ∧
 IntKind.i64.wrap ((1 : Int) + IntKind.i64.wrap ((IntKind.u64.wrap k.e).tmod 12)) = s.fst.writes ∧ IntKind.i64.wrap ((IntKind.u64.wrap k.f).tmod 4) = s.fst.retry ∧ IntKind.i64.wrap ((20 : Int) + IntKind.i64.wrap
 ((IntKind.u64.wrap k.g).tmod 60)) = s.fst.fuel ∧ (1073741824 : Int) = s.fst.most ∧ [(0 : Int), (1 : Int), (2 : Int), (3 : Int), (0 : Int), (1 : Int), (2 : Int), (3 : Int), (0 : Int)] = s.fst.init ∧ [Lock.mk
 (IntKind.i64.wrap ((1 : Int) + IntKind.i64.wrap ((IntKind.u64.wrap (IntKind.i64.wrap (k.a.tdiv 2))).tmod 2))) (0 : Int) (3 : Int), Lock.mk (IntKind.i64.wrap ((3 : Int) - IntKind.i64.wrap ((1 : Int) + IntKind.i64.wrap
 ((IntKind.u64.wrap (IntKind.i64.wrap (k.a.tdiv 2))).tmod 2)))) (3 : Int) (3 : Int), Lock.mk (3 : Int) (6 : Int) (3 : Int)] = s.fst.locks ∧ [(0 : Int), (1 : Int), (2 : Int)] = s.fst.conds ∧ [progL (at5 rows (0 : Int)),
 progL (at5 rows (1 : Int)), progL (at5 rows (2 : Int))] = s.fst.progs ∧ (0 : Int) = (↑s.snd : Int) ∧ (builtC s.fst ∧ s.snd ≤ s.fst.progs.length) ∧ True)) ∧ (decide ((3 : Int) < (↑rows.length : Int)) = false →
 (((↑rows.length : Int) == 0) = true → ∃ (s : Config × Nat), IntKind.i64.wrap ((1 : Int) + IntKind.i64.wrap ((IntKind.u64.wrap k.a).tmod 2)) = s.fst.engine ∧ IntKind.i64.wrap ((1 : Int) + IntKind.i64.wrap
 ((IntKind.u64.wrap k.b).tmod 2)) = s.fst.clock ∧ IntKind.i64.wrap ((1 : Int) + IntKind.i64.wrap ((IntKind.u64.wrap k.c).tmod 7)) = s.fst.stripes ∧ IntKind.i64.wrap ((32 : Int) - IntKind.i64.wrap (IntKind.i64.wrap
 ((IntKind.u64.wrap k.d).tmod 4) * 9)) = s.fst.reads ∧ IntKind.i64.wrap ((1 : Int) + IntKind.i64.wrap ((IntKind.u64.wrap k.e).tmod 12)) = s.fst.writes ∧ IntKind.i64.wrap ((IntKind.u64.wrap k.f).tmod 4) = s.fst.retry ∧
 IntKind.i64.wrap ((20 : Int) + IntKind.i64.wrap ((IntKind.u64.wrap k.g).tmod 60)) = s.fst.fuel ∧ (1073741824 : Int) = s.fst.most ∧ [(0 : Int), (1 : Int), (2 : Int), (3 : Int), (0 : Int), (1 : Int), (2 : Int), (3 : Int),
 (0 : Int)] = s.fst.init ∧ [Lock.mk (IntKind.i64.wrap ((1 : Int) + IntKind.i64.wrap ((IntKind.u64.wrap (IntKind.i64.wrap (k.a.tdiv 2))).tmod 2))) (0 : Int) (3 : Int), Lock.mk (IntKind.i64.wrap ((3 : Int) -
 IntKind.i64.wrap ((1 : Int) + IntKind.i64.wrap ((IntKind.u64.wrap (IntKind.i64.wrap (k.a.tdiv 2))).tmod 2)))) (3 : Int) (3 : Int), Lock.mk (3 : Int) (6 : Int) (3 : Int)] = s.fst.locks ∧ [(0 : Int), (1 : Int), (2 : Int)]
 = s.fst.conds ∧ [[]] = s.fst.progs ∧ (0 : Int) = (↑s.snd : Int) ∧ (builtC s.fst ∧ s.snd ≤ s.fst.progs.length) ∧ True) ∧ (((↑rows.length : Int) == 0) = false → ∃ (s : Config × Nat), IntKind.i64.wrap ((1 : Int) +
 IntKind.i64.wrap ((IntKind.u64.wrap k.a).tmod 2)) = s.fst.engine ∧ IntKind.i64.wrap ((1 : Int) + IntKind.i64.wrap ((IntKind.u64.wrap k.b).tmod 2)) = s.fst.clock ∧ IntKind.i64.wrap ((1 : Int) + IntKind.i64.wrap
 ((IntKind.u64.wrap k.c).tmod 7)) = s.fst.stripes ∧ IntKind.i64.wrap ((32 : Int) - IntKind.i64.wrap (IntKind.i64.wrap ((IntKind.u64.wrap k.d).tmod 4) * 9)) = s.fst.reads ∧ IntKind.i64.wrap ((1 : Int) + IntKind.i64.wrap
 ((IntKind.u64.wrap k.e).tmod 12)) = s.fst.writes ∧ IntKind.i64.wrap ((IntKind.u64.wrap k.f).tmod 4) = s.fst.retry ∧ IntKind.i64.wrap ((20 : Int) + IntKind.i64.wrap ((IntKind.u64.wrap k.g).tmod 60)) = s.fst.fuel ∧
 (1073741824 : Int) = s.fst.most ∧ [(0 : Int), (1 : Int), (2 : Int), (3 : Int), (0 : Int), (1 : Int), (2 : Int), (3 : Int), (0 : Int)] = s.fst.init ∧ [Lock.mk (IntKind.i64.wrap ((1 : Int) + IntKind.i64.wrap
 ((IntKind.u64.wrap (IntKind.i64.wrap (k.a.tdiv 2))).tmod 2))) (0 : Int) (3 : Int), Lock.mk (IntKind.i64.wrap ((3 : Int) - IntKind.i64.wrap ((1 : Int) + IntKind.i64.wrap ((IntKind.u64.wrap (IntKind.i64.wrap (k.a.tdiv
 2))).tmod 2)))) (3 : Int) (3 : Int), Lock.mk (3 : Int) (6 : Int) (3 : Int)] = s.fst.locks ∧ [(0 : Int), (1 : Int), (2 : Int)] = s.fst.conds ∧ [progL (at5 rows (0 : Int)), progL (at5 rows (1 : Int)), progL (at5 rows (2 :
 Int))] = s.fst.progs ∧ (0 : Int) = (↑s.snd : Int) ∧ (builtC s.fst ∧ s.snd ≤ s.fst.progs.length) ∧ True))) ∧ (decide ((2 : Int) < (↑rows.length : Int)) = false → (((↑rows.length : Int) == 0) = true → ∃ (s : Config × Nat),
 IntKind.i64.wrap ((1 : Int) + IntKind.i64.wrap ((IntKind.u64.wrap k.a).tmod 2)) = s.fst.engine ∧ IntKind.i64.wrap ((1 : Int) + IntKind.i64.wrap ((IntKind.u64.wrap k.b).tmod 2)) = s.fst.clock ∧ IntKind.i64.wrap ((1 : Int)
 + IntKind.i64.wrap ((IntKind.u64.wrap k.c).tmod 7)) = s.fst.stripes ∧ IntKind.i64.wrap ((32 : Int) - IntKind.i64.wrap (IntKind.i64.wrap ((IntKind.u64.wrap k.d).tmod 4) * 9)) = s.fst.reads ∧ IntKind.i64.wrap ((1 : Int) +
 IntKind.i64.wrap ((IntKind.u64.wrap k.e).tmod 12)) = s.fst.writes ∧ IntKind.i64.wrap ((IntKind.u64.wrap k.f).tmod 4) = s.fst.retry ∧ IntKind.i64.wrap ((20 : Int) + IntKind.i64.wrap ((IntKind.u64.wrap k.g).tmod 60)) =
 s.fst.fuel ∧ (1073741824 : Int) = s.fst.most ∧ [(0 : Int), (1 : Int), (2 : Int), (3 : Int), (0 : Int), (1 : Int), (2 : Int), (3 : Int), (0 : Int)] = s.fst.init ∧ [Lock.mk (IntKind.i64.wrap ((1 : Int) + IntKind.i64.wrap
 ((IntKind.u64.wrap (IntKind.i64.wrap (k.a.tdiv 2))).tmod 2))) (0 : Int) (3 : Int), Lock.mk (IntKind.i64.wrap ((3 : Int) - IntKind.i64.wrap ((1 : Int) + IntKind.i64.wrap ((IntKind.u64.wrap (IntKind.i64.wrap (k.a.tdiv
 2))).tmod 2)))) (3 : Int) (3 : Int), Lock.mk (3 : Int) (6 : Int) (3 : Int)] = s.fst.locks ∧ [(0 : Int), (1 : Int), (2 : Int)] = s.fst.conds ∧ [[]] = s.fst.progs ∧ (0 : Int) = (↑s.snd : Int) ∧ (builtC s.fst ∧ s.snd ≤
 s.fst.progs.length) ∧ True) ∧ (((↑rows.length : Int) == 0) = false → ∃ (s : Config × Nat), IntKind.i64.wrap ((1 : Int) + IntKind.i64.wrap ((IntKind.u64.wrap k.a).tmod 2)) = s.fst.engine ∧ IntKind.i64.wrap ((1 : Int) +
 IntKind.i64.wrap ((IntKind.u64.wrap k.b).tmod 2)) = s.fst.clock ∧ IntKind.i64.wrap ((1 : Int) + IntKind.i64.wrap ((IntKind.u64.wrap k.c).tmod 7)) = s.fst.stripes ∧ IntKind.i64.wrap ((32 : Int) - IntKind.i64.wrap
 (IntKind.i64.wrap ((IntKind.u64.wrap k.d).tmod 4) * 9)) = s.fst.reads ∧ IntKind.i64.wrap ((1 : Int) + IntKind.i64.wrap ((IntKind.u64.wrap k.e).tmod 12)) = s.fst.writes ∧ IntKind.i64.wrap ((IntKind.u64.wrap k.f).tmod 4) =
 s.fst.retry ∧ IntKind.i64.wrap ((20 : Int) + IntKind.i64.wrap ((IntKind.u64.wrap k.g).tmod 60)) = s.fst.fuel ∧ (1073741824 : Int) = s.fst.most ∧ [(0 : Int), (1 : Int), (2 : Int), (3 : Int), (0 : Int), (1 : Int), (2 :
 Int), (3 : Int), (0 : Int)] = s.fst.init ∧ [Lock.mk (IntKind.i64.wrap ((1 : Int) + IntKind.i64.wrap ((IntKind.u64.wrap (IntKind.i64.wrap (k.a.tdiv 2))).tmod 2))) (0 : Int) (3 : Int), Lock.mk (IntKind.i64.wrap ((3 : Int)
 - IntKind.i64.wrap ((1 : Int) + IntKind.i64.wrap ((IntKind.u64.wrap (IntKind.i64.wrap (k.a.tdiv 2))).tmod 2)))) (3 : Int) (3 : Int), Lock.mk (3 : Int) (6 : Int) (3 : Int)] = s.fst.locks ∧ [(0 : Int), (1 : Int), (2 :
 Int)] = s.fst.conds ∧ [progL (at5 rows (0 : Int)), progL (at5 rows (1 : Int))] = s.fst.progs ∧ (0 : Int) = (↑s.snd : Int) ∧ (builtC s.fst ∧ s.snd ≤ s.fst.progs.length) ∧ True))) ∧ (decide ((1 : Int) < (↑rows.length :
 Int)) = false → (((↑rows.length : Int) == 0) = true → ∃ (s : Config × Nat), IntKind.i64.wrap ((1 : Int) + IntKind.i64.wrap ((IntKind.u64.wrap k.a).tmod 2)) = s.fst.engine ∧ IntKind.i64.wrap ((1 : Int) + IntKind.i64.wrap
 ((IntKind.u64.wrap k.b).tmod 2)) = s.fst.clock ∧ IntKind.i64.wrap ((1 : Int) + IntKind.i64.wrap ((IntKind.u64.wrap k.c).tmod 7)) = s.fst.stripes ∧ IntKind.i64.wrap ((32 : Int) - IntKind.i64.wrap (IntKind.i64.wrap
 ((IntKind.u64.wrap k.d).tmod 4) * 9)) = s.fst.reads ∧ IntKind.i64.wrap ((1 : Int) + IntKind.i64.wrap ((IntKind.u64.wrap k.e).tmod 12)) = s.fst.writes ∧ IntKind.i64.wrap ((IntKind.u64.wrap k.f).tmod 4) = s.fst.retry ∧
 IntKind.i64.wrap ((20 : Int) + IntKind.i64.wrap ((IntKind.u64.wrap k.g).tmod 60)) = s.fst.fuel ∧ (1073741824 : Int) = s.fst.most ∧ [(0 : Int), (1 : Int), (2 : Int), (3 : Int), (0 : Int), (1 : Int), (2 : Int), (3 : Int),
 (0 : Int)] = s.fst.init ∧ [Lock.mk (IntKind.i64.wrap ((1 : Int) + IntKind.i64.wrap ((IntKind.u64.wrap (IntKind.i64.wrap (k.a.tdiv 2))).tmod 2))) (0 : Int) (3 : Int), Lock.mk (IntKind.i64.wrap ((3 : Int) -
 IntKind.i64.wrap ((1 : Int) + IntKind.i64.wrap ((IntKind.u64.wrap (IntKind.i64.wrap (k.a.tdiv 2))).tmod 2)))) (3 : Int) (3 : Int), Lock.mk (3 : Int) (6 : Int) (3 : Int)] = s.fst.locks ∧ [(0 : Int), (1 : Int), (2 : Int)]
 = s.fst.conds ∧ [[]] = s.fst.progs ∧ (0 : Int) = (↑s.snd : Int) ∧ (builtC s.fst ∧ s.snd ≤ s.fst.progs.length) ∧ True) ∧ (((↑rows.length : Int) == 0) = false → ∃ (s : Config × Nat), IntKind.i64.wrap ((1 : Int) +
 IntKind.i64.wrap ((IntKind.u64.wrap k.a).tmod 2)) = s.fst.engine ∧ IntKind.i64.wrap ((1 : Int) + IntKind.i64.wrap ((IntKind.u64.wrap k.b).tmod 2)) = s.fst.clock ∧ IntKind.i64.wrap ((1 : Int) + IntKind.i64.wrap
 ((IntKind.u64.wrap k.c).tmod 7)) = s.fst.stripes ∧ IntKind.i64.wrap ((32 : Int) - IntKind.i64.wrap (IntKind.i64.wrap ((IntKind.u64.wrap k.d).tmod 4) * 9)) = s.fst.reads ∧ IntKind.i64.wrap ((1 : Int) + IntKind.i64.wrap
 ((IntKind.u64.wrap k.e).tmod 12)) = s.fst.writes ∧ IntKind.i64.wrap ((IntKind.u64.wrap k.f).tmod 4) = s.fst.retry ∧ IntKind.i64.wrap ((20 : Int) + IntKind.i64.wrap ((IntKind.u64.wrap k.g).tmod 60)) = s.fst.fuel ∧
 (1073741824 : Int) = s.fst.most ∧ [(0 : Int), (1 : Int), (2 : Int), (3 : Int), (0 : Int), (1 : Int), (2 : Int), (3 : Int), (0 : Int)] = s.fst.init ∧ [Lock.mk (IntKind.i64.wrap ((1 : Int) + IntKind.i64.wrap
 ((IntKind.u64.wrap (IntKind.i64.wrap (k.a.tdiv 2))).tmod 2))) (0 : Int) (3 : Int), Lock.mk (IntKind.i64.wrap ((3 : Int) - IntKind.i64.wrap ((1 : Int) + IntKind.i64.wrap ((IntKind.u64.wrap (IntKind.i64.wrap (k.a.tdiv
 2))).tmod 2)))) (3 : Int) (3 : Int), Lock.mk (3 : Int) (6 : Int) (3 : Int)] = s.fst.locks ∧ [(0 : Int), (1 : Int), (2 : Int)] = s.fst.conds ∧ [progL (at5 rows (0 : Int))] = s.fst.progs ∧ (0 : Int) = (↑s.snd : Int) ∧
 (builtC s.fst ∧ s.snd ≤ s.fst.progs.length) ∧ True))) ∧ (decide ((0 : Int) < (↑rows.length : Int)) = false → (((↑rows.length : Int) == 0) = true → ∃ (s : Config × Nat), IntKind.i64.wrap ((1 : Int) + IntKind.i64.wrap
 ((IntKind.u64.wrap k.a).tmod 2)) = s.fst.engine ∧ IntKind.i64.wrap ((1 : Int) + IntKind.i64.wrap ((IntKind.u64.wrap k.b).tmod 2)) = s.fst.clock ∧ IntKind.i64.wrap ((1 : Int) + IntKind.i64.wrap ((IntKind.u64.wrap
 k.c).tmod 7)) = s.fst.stripes ∧ IntKind.i64.wrap ((32 : Int) - IntKind.i64.wrap (IntKind.i64.wrap ((IntKind.u64.wrap k.d).tmod 4) * 9)) = s.fst.reads ∧ IntKind.i64.wrap ((1 : Int) + IntKind.i64.wrap ((IntKind.u64.wrap
 k.e).tmod 12)) = s.fst.writes ∧ IntKind.i64.wrap ((IntKind.u64.wrap k.f).tmod 4) = s.fst.retry ∧ IntKind.i64.wrap ((20 : Int) + IntKind.i64.wrap ((IntKind.u64.wrap k.g).tmod 60)) = s.fst.fuel ∧ (1073741824 : Int) =
 s.fst.most ∧ [(0 : Int), (1 : Int), (2 : Int), (3 : Int), (0 : Int), (1 : Int), (2 : Int), (3 : Int), (0 : Int)] = s.fst.init ∧ [Lock.mk (IntKind.i64.wrap ((1 : Int) + IntKind.i64.wrap ((IntKind.u64.wrap
 (IntKind.i64.wrap (k.a.tdiv 2))).tmod 2))) (0 : Int) (3 : Int), Lock.mk (IntKind.i64.wrap ((3 : Int) - IntKind.i64.wrap ((1 : Int) + IntKind.i64.wrap ((IntKind.u64.wrap (IntKind.i64.wrap (k.a.tdiv 2))).tmod 2)))) (3 :
 Int) (3 : Int), Lock.mk (3 : Int) (6 : Int) (3 : Int)] = s.fst.locks ∧ [(0 : Int), (1 : Int), (2 : Int)] = s.fst.conds ∧ [[]] = s.fst.progs ∧ (0 : Int) = (↑s.snd : Int) ∧ (builtC s.fst ∧ s.snd ≤ s.fst.progs.length) ∧
 True) ∧ (((↑rows.length : Int) == 0) = false → ∃ (s : Config × Nat), IntKind.i64.wrap ((1 : Int) + IntKind.i64.wrap ((IntKind.u64.wrap k.a).tmod 2)) = s.fst.engine ∧ IntKind.i64.wrap ((1 : Int) + IntKind.i64.wrap
 ((IntKind.u64.wrap k.b).tmod 2)) = s.fst.clock ∧ IntKind.i64.wrap ((1 : Int) + IntKind.i64.wrap ((IntKind.u64.wrap k.c).tmod 7)) = s.fst.stripes ∧ IntKind.i64.wrap ((32 : Int) - IntKind.i64.wrap (IntKind.i64.wrap
 ((IntKind.u64.wrap k.d).tmod 4) * 9)) = s.fst.reads ∧ IntKind.i64.wrap ((1 : Int) + IntKind.i64.wrap ((IntKind.u64.wrap k.e).tmod 12)) = s.fst.writes ∧ IntKind.i64.wrap ((IntKind.u64.wrap k.f).tmod 4) = s.fst.retry ∧
 IntKind.i64.wrap ((20 : Int) + IntKind.i64.wrap ((IntKind.u64.wrap k.g).tmod 60)) = s.fst.fuel ∧ (1073741824 : Int) = s.fst.most ∧ [(0 : Int), (1 : Int), (2 : Int), (3 : Int), (0 : Int), (1 : Int), (2 : Int), (3 : Int),
 (0 : Int)] = s.fst.init ∧ [Lock.mk (IntKind.i64.wrap ((1 : Int) + IntKind.i64.wrap ((IntKind.u64.wrap (IntKind.i64.wrap (k.a.tdiv 2))).tmod 2))) (0 : Int) (3 : Int), Lock.mk (IntKind.i64.wrap ((3 : Int) -
 IntKind.i64.wrap ((1 : Int) + IntKind.i64.wrap ((IntKind.u64.wrap (IntKind.i64.wrap (k.a.tdiv 2))).tmod 2)))) (3 : Int) (3 : Int), Lock.mk (3 : Int) (6 : Int) (3 : Int)] = s.fst.locks ∧ [(0 : Int), (1 : Int), (2 : Int)]
 = s.fst.conds ∧ [] = s.fst.progs ∧ (0 : Int) = (↑s.snd : Int) ∧ (builtC s.fst ∧ s.snd ≤ s.fst.progs.length) ∧ True)))))) := by kernel_rfl
theorem lb_5 (c : Config) (t : Nat) : Go.Sy.Tree.holds (cutVC F (lookC q4) 600 Tryd.f4 b4 ⟨[(5, ltC)], .b true, []⟩ 5 ltC (c, t)) = ( (decide ((↑t : Int) < (↑c.progs.length : Int)) = true → pgD0.pre (Config.mk c.engine
 c.clock c.stripes c.reads c.writes c.retry c.fuel c.most c.init c.locks c.conds c.progs, (↑t : Int), ()) ∧ ∃ (s : Config × Nat), c.engine = s.fst.engine ∧ c.clock = s.fst.clock ∧ c.stripes = s.fst.stripes ∧ c.reads =
 s.fst.reads ∧ c.writes = s.fst.writes ∧ c.retry = s.fst.retry ∧ c.fuel = s.fst.fuel ∧ c.most = s.fst.most ∧ c.init = s.fst.init ∧ c.locks = s.fst.locks ∧ c.conds = s.fst.conds ∧ c.progs = s.fst.progs ∧ IntKind.i64.wrap
 ((↑t : Int) + 1) = (↑s.snd : Int) ∧ (builtC s.fst ∧ s.snd ≤ s.fst.progs.length) ∧ s.fst.progs.length - s.snd < c.progs.length - t ∧ True) ∧ (decide ((↑t : Int) < (↑c.progs.length : Int)) = false → cfD0.pre (Config.mk
 c.engine c.clock c.stripes c.reads c.writes c.retry c.fuel c.most c.init c.locks c.conds c.progs, ()) ∧ ((c.stripes == c.stripes) = true → (((↑c.locks.length : Int) == 3) = true → (((↑c.progs.length : Int) ==
 (↑c.progs.length : Int)) = true → (((↑c.conds.length : Int) == 3) = true → ((↑c.init.length : Int) == 9) = true ∧ True) ∧ (((↑c.conds.length : Int) == 3) = false → false = true ∧ True)) ∧ (((↑c.progs.length : Int) ==
 (↑c.progs.length : Int)) = false → false = true ∧ True)) ∧ (((↑c.locks.length : Int) == 3) = false → false = true ∧ True)) ∧ ((c.stripes == c.stripes) = false → false = true ∧ True))) := by kernel_rfl

theorem few_len {rows : List (List Int)} (h : fewB rows 12 = true) : ∀ i : Nat, i < 3 → i < rows.length → (at5 rows i).length ≤ 12 := by
  have step : ∀ (r i : Nat), fewGo rows 12 (r + 1) i = true → i < rows.length → (at5 rows i).length ≤ 12 ∧ fewGo rows 12 r (i + 1) = true := by
    intro r i h hi
    rw [few_step (show (i : Int) < rows.length by omega)] at h
    split at h
    · cases h
    · rename_i g
      exact ⟨by omega, h⟩
  intro i h3 hi
  have s0 := fun hi => step 4 0 h hi
  have : i = 0 ∨ i = 1 ∨ i = 2 := by omega
  rcases this with rfl | rfl | rfl
  · exact (s0 hi).1
  · exact (step 3 1 (s0 (by omega)).2 hi).1
  · exact (step 2 2 (step 3 1 (s0 (by omega)).2 (by omega)).2 hi).1
theorem lb_e_ok (k : K8) (rows : List (List Int)) : Paid (entryX F (lookC q4) 600 Tryd.f4 b4 ⟨[(5, ltC)], .b true, []⟩ [.agg (enc7 k), .tl (T := T) 5 rows]) := by
  refine ⟨?_⟩
  rw [lb_e]
  refine ⟨trivial, fun _ => ⟨rfl, trivial⟩, fun hf => ?_⟩
  have hf : fewB rows 12 = true := by
    cases h : fewB rows 12 with
    | true => rfl
    | false => rw [h] at hf; cases hf
  have lens : ∀ i : Nat, i < 3 → (i : Int) < rows.length → lenOk (at5 rows i) := fun i h3 hi => by
    have := few_len hf i h3 (by omega)
    show (at5 rows i).length ≤ 1000
    omega
  have go : ∀ (ps : List (List Instr)) (w m : Int), w = writesOf k → m = mostOf k → 1 ≤ ps.length → ps.length ≤ 3 → (∀ p ∈ ps, p = [] ∨ ∃ l, p = progL l) → ∃ (s : Config × Nat), IntKind.i64.wrap (1 + pk k.a 2) = s.1.engine ∧ IntKind.i64.wrap (1 + pk k.b 2) = s.1.clock ∧ IntKind.i64.wrap (1 + pk k.c 7) = s.1.stripes ∧ IntKind.i64.wrap (32 - IntKind.i64.wrap (pk k.d 4 * 9)) = s.1.reads ∧ w = s.1.writes ∧ pk k.f 4 = s.1.retry ∧ IntKind.i64.wrap (20 + pk k.g 60) = s.1.fuel ∧ m = s.1.most ∧
      [0, 1, 2, 3, 0, 1, 2, 3, 0] = s.1.init ∧ [Lock.mk (oneOf k) 0 3, Lock.mk (IntKind.i64.wrap (3 - oneOf k)) 3 3, Lock.mk 3 6 3] = s.1.locks ∧ [0, 1, 2] = s.1.conds ∧ ps = s.1.progs ∧ (0 : Int) = (s.2 : Int) ∧ (builtC s.1 ∧ s.2 ≤ s.1.progs.length) ∧ True := fun ps w m hw hm h1 h3 hp =>
    ⟨(bldC k ps, 0), rfl, rfl, rfl, rfl, hw, rfl, rfl, hm, rfl, rfl, rfl, rfl, rfl, ⟨built_of h1 h3 hp, Nat.zero_le _⟩, trivial⟩
  have g0 := fun (w m : Int) (hw : w = writesOf k) (hm : m = mostOf k) (z : ((rows.length : Int) == 0) = true) => go [[]] w m hw hm (by decide) (by decide) (fun p h => by rw [List.mem_singleton] at h; exact .inl h)
  have g1 := fun (w m : Int) (hw : w = writesOf k) (hm : m = mostOf k) (z : True) => go [progL (at5 rows 0)] w m hw hm (Nat.le_refl _) (show 1 ≤ 3 by decide) (fun p h => by rw [List.mem_singleton] at h; exact .inr ⟨_, h⟩)
  have g2 := fun (w m : Int) (hw : w = writesOf k) (hm : m = mostOf k) (z : True) => go [progL (at5 rows 0), progL (at5 rows 1)] w m hw hm (show 1 ≤ 2 by decide) (show 2 ≤ 3 by decide) (fun p h => by
    simp only [List.mem_cons, List.not_mem_nil, or_false] at h
    rcases h with h | h <;> exact .inr ⟨_, h⟩)
  have g3 := fun (w m : Int) (hw : w = writesOf k) (hm : m = mostOf k) (z : True) => go [progL (at5 rows 0), progL (at5 rows 1), progL (at5 rows 2)] w m hw hm (show 1 ≤ 3 by decide) (show 3 ≤ 3 by decide) (fun p h => by
    simp only [List.mem_cons, List.not_mem_nil, or_false] at h
    rcases h with h | h | h <;> exact .inr ⟨_, h⟩)
  have m1 : (IntKind.i64.wrap ((IntKind.u64.wrap k.h).tmod 4) == 1) = true → pk (IntKind.i64.wrap (k.h.tdiv 4)) 12 = mostOf k := fun h => by
    have h : pk k.h 4 = 1 := eq_of_beq h
    rw [mostOf, if_pos h]
  have m0 : (IntKind.i64.wrap ((IntKind.u64.wrap k.h).tmod 4) == 1) = false → 1073741824 = mostOf k := fun h => by
    have h : ¬ pk k.h 4 = 1 := ne_of_beq_false h
    rw [mostOf, if_neg h]
  have w1 : decide (IntKind.i64.wrap ((IntKind.u64.wrap k.e).tmod 5) > 0) = true → 32 = writesOf k := fun h => by
    have h : pk k.e 5 > 0 := of_decide_eq_true h
    rw [writesOf, if_pos h]
  have w0 : decide (IntKind.i64.wrap ((IntKind.u64.wrap k.e).tmod 5) > 0) = false → IntKind.i64.wrap (1 + pk k.e 12) = writesOf k := fun h => by
    have h : ¬ pk k.e 5 > 0 := of_decide_eq_false h
    rw [writesOf, if_neg h]
  have ne0 : (0 : Int) < rows.length → ((rows.length : Int) == 0) = true → False := fun h z => by have : (rows.length : Int) = 0 := eq_of_beq z; omega
  have e0 : ¬ (0 : Int) < rows.length → ((rows.length : Int) == 0) = false → False := fun h z => by have := ne_of_beq_false z; omega
  refine ⟨fun hM => ⟨fun hW => ?_, fun hW => ?_⟩, fun hM => ⟨fun hW => ?_, fun hW => ?_⟩⟩
  · exact ⟨fun a0 => have b0 := of_decide_eq_true a0; have nz := ne0 b0; ⟨⟨by decide, b0⟩, lens 0 (by decide) b0, fun a1 => have b1 := of_decide_eq_true a1; ⟨⟨by decide, b1⟩, lens 1 (by decide) b1, fun a2 => have b2 := of_decide_eq_true a2; ⟨⟨by decide, b2⟩, lens 2 (by decide) b2, fun _ => ⟨fun z => (nz z).elim, fun z => g3 _ _ (w1 hW) (m1 hM) trivial⟩, fun _ => ⟨fun z => (nz z).elim, fun z => g3 _ _ (w1 hW) (m1 hM) trivial⟩⟩, fun a2 => ⟨fun z => (nz z).elim, fun z => g2 _ _ (w1 hW) (m1 hM) trivial⟩⟩, fun a1 => ⟨fun z => (nz z).elim, fun z => g1 _ _ (w1 hW) (m1 hM) trivial⟩⟩,
      fun a0 => ⟨fun z => g0 _ _ (w1 hW) (m1 hM) z, fun z => (e0 (of_decide_eq_false a0) z).elim⟩⟩
  · exact ⟨fun a0 => have b0 := of_decide_eq_true a0; have nz := ne0 b0; ⟨⟨by decide, b0⟩, lens 0 (by decide) b0, fun a1 => have b1 := of_decide_eq_true a1; ⟨⟨by decide, b1⟩, lens 1 (by decide) b1, fun a2 => have b2 := of_decide_eq_true a2; ⟨⟨by decide, b2⟩, lens 2 (by decide) b2, fun _ => ⟨fun z => (nz z).elim, fun z => g3 _ _ (w0 hW) (m1 hM) trivial⟩, fun _ => ⟨fun z => (nz z).elim, fun z => g3 _ _ (w0 hW) (m1 hM) trivial⟩⟩, fun a2 => ⟨fun z => (nz z).elim, fun z => g2 _ _ (w0 hW) (m1 hM) trivial⟩⟩, fun a1 => ⟨fun z => (nz z).elim, fun z => g1 _ _ (w0 hW) (m1 hM) trivial⟩⟩,
      fun a0 => ⟨fun z => g0 _ _ (w0 hW) (m1 hM) z, fun z => (e0 (of_decide_eq_false a0) z).elim⟩⟩
  · exact ⟨fun a0 => have b0 := of_decide_eq_true a0; have nz := ne0 b0; ⟨⟨by decide, b0⟩, lens 0 (by decide) b0, fun a1 => have b1 := of_decide_eq_true a1; ⟨⟨by decide, b1⟩, lens 1 (by decide) b1, fun a2 => have b2 := of_decide_eq_true a2; ⟨⟨by decide, b2⟩, lens 2 (by decide) b2, fun _ => ⟨fun z => (nz z).elim, fun z => g3 _ _ (w1 hW) (m0 hM) trivial⟩, fun _ => ⟨fun z => (nz z).elim, fun z => g3 _ _ (w1 hW) (m0 hM) trivial⟩⟩, fun a2 => ⟨fun z => (nz z).elim, fun z => g2 _ _ (w1 hW) (m0 hM) trivial⟩⟩, fun a1 => ⟨fun z => (nz z).elim, fun z => g1 _ _ (w1 hW) (m0 hM) trivial⟩⟩,
      fun a0 => ⟨fun z => g0 _ _ (w1 hW) (m0 hM) z, fun z => (e0 (of_decide_eq_false a0) z).elim⟩⟩
  · exact ⟨fun a0 => have b0 := of_decide_eq_true a0; have nz := ne0 b0; ⟨⟨by decide, b0⟩, lens 0 (by decide) b0, fun a1 => have b1 := of_decide_eq_true a1; ⟨⟨by decide, b1⟩, lens 1 (by decide) b1, fun a2 => have b2 := of_decide_eq_true a2; ⟨⟨by decide, b2⟩, lens 2 (by decide) b2, fun _ => ⟨fun z => (nz z).elim, fun z => g3 _ _ (w0 hW) (m0 hM) trivial⟩, fun _ => ⟨fun z => (nz z).elim, fun z => g3 _ _ (w0 hW) (m0 hM) trivial⟩⟩, fun a2 => ⟨fun z => (nz z).elim, fun z => g2 _ _ (w0 hW) (m0 hM) trivial⟩⟩, fun a1 => ⟨fun z => (nz z).elim, fun z => g1 _ _ (w0 hW) (m0 hM) trivial⟩⟩,
      fun a0 => ⟨fun z => g0 _ _ (w0 hW) (m0 hM) z, fun z => (e0 (of_decide_eq_false a0) z).elim⟩⟩
theorem lb_5_ok (c : Config) (t : Nat) (hb : builtC c) (ht : t ≤ c.progs.length) : Paid (cutVC F (lookC q4) 600 Tryd.f4 b4 ⟨[(5, ltC)], .b true, []⟩ 5 ltC (c, t)) := by
  refine ⟨?_⟩
  rw [lb_5]
  have hs : c.progs.length ≤ 1000 := hb.1.2.2.2
  refine ⟨fun h => ?_, fun h => ⟨hb, fun _ => ⟨fun _ => ⟨fun _ => ⟨fun _ => ⟨?_, trivial⟩, fun z => ?_⟩, fun z => ?_⟩, fun z => ?_⟩, fun z => ?_⟩⟩
  · have h : (t : Int) < c.progs.length := of_decide_eq_true h
    exact ⟨⟨hb, (by omega : (0 : Int) ≤ (t : Int)), h⟩, (c, t + 1), rfl, rfl, rfl, rfl, rfl, rfl, rfl, rfl, rfl, rfl, rfl, rfl, succ64 (by omega), ⟨hb, (by omega : t + 1 ≤ c.progs.length)⟩, by show c.progs.length - (t + 1) < c.progs.length - t; omega, trivial⟩
  · rw [hb.2.2.2.1]; rfl
  · rw [hb.2.2.2.2.2] at z; cases z
  · simp at z
  · rw [hb.2.2.2.2.1] at z; cases z
  · simp at z
theorem waitF_is (cs : List Int) (o : List Instr) (x : Instr) : 0 ≤ waitF cs o x ∧ waitF cs o x ≤ 10 := by
  unfold waitF
  repeat' split
  all_goals decide
theorem wakeF_is (cs : List Int) (o : List Instr) (x : Instr) : 0 ≤ wakeF cs o x ∧ wakeF cs o x ≤ 10 := by
  unfold wakeF
  repeat' split
  all_goals decide
theorem wcode_is (c : Config) (x : Instr) (w : WS) : 0 ≤ wcode c x w ∧ wcode c x w ≤ 10 := by
  have h1 := waitF_is c.conds w.o x
  have h2 := wakeF_is c.conds w.o x
  unfold wcode
  repeat' split
  all_goals first
    | exact h1
    | exact h2
    | decide
def W3Ok (t : Nat) (w : W3) : Prop := (w.1 = 0 → w = (0, 0, 0)) ∧ (w.1 ≠ 0 → w.2.1 = t ∧ 1 ≤ w.1 ∧ w.1 ≤ 10)
theorem w3_of {t : Nat} {k a : Int} (h0 : 1 ≤ k) (h1 : k ≤ 10) : W3Ok t (k, (t : Int), a) := ⟨fun h => by have h : k = 0 := h; omega, fun _ => ⟨rfl, h0, h1⟩⟩
theorem wgo_w3 (c : Config) (t : Nat) (p : List Instr) : ∀ (r i : Nat) (w : WS), W3Ok t (wgo c t p r i w)
  | 0, i, w => ⟨fun _ => rfl, fun h => (h rfl).elim⟩
  | r + 1, i, w => by
    rw [wgo]
    split
    · exact wgo_w3 c t p r (i + 1) _
    · rename_i h
      have := wcode_is c (at2 p i) w
      exact w3_of (by omega) (by omega)
theorem pwC_w3 (c : Config) (t : Nat) : W3Ok t (pwC c t) := by
  unfold pwC progP
  split
  · exact w3_of (by decide) (by decide)
  split
  · exact w3_of (by decide) (by decide)
  split
  · exact w3_of (by decide) (by decide)
  · exact wgo_w3 _ _ _ _ _ _
theorem pwCOk : PwOk pwC := ⟨fun c k => (pwC_w3 c k).1, fun c k => (pwC_w3 c k).2⟩
theorem pgOk0 : CtrOk1 F.S 16 (mkCtr pgD0) := mkCtr_weak (fun (x : Config × Int × Unit) (hp : builtC x.1 ∧ 0 ≤ x.2.1 ∧ x.2.1 < x.1.progs.length) => ⟨⟨hp.1.1, hp.2.1, hp.2.2⟩, by
  show SV.a _ = SV.a (errV (pwC x.1 x.2.1.toNat))
  rw [hp.1.2.1 _ (by have h1 := hp.2.1; have h2 := hp.2.2; omega)]
  rfl, rfl⟩) progOk
theorem cfOk0 : CtrOk1 F.S 12 (mkCtr cfD0) := mkCtr_weak (fun (x : Config × Unit) (hp : builtC x.1) => ⟨⟨hp.1, hp.1⟩, by
  show SV.a _ = SV.a (errV (cfgW pwC x.1))
  rw [hp.2.2.1]
  rfl, rfl⟩) (cfgOk pwCOk progOk)
theorem q4Ok : CtrOk F.S (lookC q4) := lookC_ok fun p h => by
  simp only [q4, List.mem_cons, List.not_mem_nil, or_false] at h
  rcases h with rfl | rfl | rfl | rfl | rfl
  · exact toldCtr_ok rfl
  · exact fewOk
  · exact pgOk0
  · exact cfOk0
  · exact buildOk
theorem lb_run (k : K8) (rows : List (List Int)) {av : List AVal} (hA : Ers (C := cod) (away []) [.agg (enc7 k), .tl (T := T) 5 rows] av) : ∃ m H', runA S m 0 4 av [] = some (.bool true, H') :=
  law_paid (F := F) (fn := Tryd.f4) (body := b4) (args := [.agg (enc7 k), .tl (T := T) 5 rows]) codOk noExt hookLow q4Ok Tryd.func4 rfl rfl rfl 600 [(5, ltC)] (show 2 ≤ 64 by decide) (show 64 ≤ 512 by decide) (by kernel_rfl) (lb_e_ok k rows) (fun p hm s hI => by
    rw [List.mem_singleton] at hm
    subst hm
    exact lb_5_ok s.1 s.2 hI.1 hI.2) hA
end Go.Proofs.YtjboohjicdmidaaDoor

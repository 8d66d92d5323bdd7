/- The document's own Prog: its contract is paid. -/
import Derived.Test.YtjboohjicdmidaaDoorRv
namespace Go.Proofs.YtjboohjicdmidaaDoor
open Go.RowKit Go.Am Go.Sy
set_option linter.unusedVariables false
set_option linter.unusedSimpArgs false

theorem rq_e (c : Config) (t : Nat) : Go.Sy.Tree.holds (entryX F (lookC r2) 300 Tryd.f52 b52 (rpF c t) [.agg (enc4 c), .i .i64 t]) = ( (decide ((↑t : Int) < 0) = true → (1 : Int) = (pwC c t).fst ∧ (-1 : Int) = (pwC c
 t).snd.snd ∧ True) ∧ (decide ((↑t : Int) < 0) = false → (decide ((↑t : Int) ≥ (↑c.progs.length : Int)) = true → (1 : Int) = (pwC c t).fst ∧ (-1 : Int) = (pwC c t).snd.snd ∧ True) ∧ (decide ((↑t : Int) ≥ (↑c.progs.length
 : Int)) = false → ((0 : Int) ≤ (↑t : Int) ∧ (↑t : Int) < (↑c.progs.length : Int)) ∧ (decide ((↑(at3 c.progs (↑t : Int)).length : Int) > 48) = true → (4 : Int) = (pwC c t).fst ∧ (-1 : Int) = (pwC c t).snd.snd ∧ True) ∧
 (decide ((↑(at3 c.progs (↑t : Int)).length : Int) > 48) = false → ∃ (s : Nat), (↑t : Int) = (↑t : Int) ∧ c.engine = c.engine ∧ c.clock = c.clock ∧ c.stripes = c.stripes ∧ c.reads = c.reads ∧ c.writes = c.writes ∧ c.retry
 = c.retry ∧ c.fuel = c.fuel ∧ c.most = c.most ∧ c.init = c.init ∧ c.locks = c.locks ∧ c.conds = c.conds ∧ c.progs = c.progs ∧ at3 c.progs (↑t : Int) = at3 c.progs (↑t : Int) ∧ (0 : Int) = (↑s : Int) ∧ (s ≤ (at3 c.progs
 (↑t : Int)).length ∧ (at3 c.progs (↑t : Int)).length ≤ 48 ∧ mayGo (at3 c.progs (↑t : Int)) ((at3 c.progs (↑t : Int)).length - s) s = mayGo (at3 c.progs (↑t : Int)) (at3 c.progs (↑t : Int)).length (0 : Nat) ∧ ∀ (k : Nat),
 k < s → mayB (at2 (at3 c.progs (↑t : Int)) (↑k : Int)) = true) ∧ True)))) := by kernel_rfl
theorem rq_7 (c : Config) (t i : Nat) : Go.Sy.Tree.holds (cutVC F (lookC r2) 300 Tryd.f52 b52 (rpF c t) 7 (rpC7 c t) i) = ( (decide ((↑i : Int) < (↑(at3 c.progs (↑t : Int)).length : Int)) = true → ((0 : Int) ≤ (↑i : Int)
 ∧ (↑i : Int) < (↑(at3 c.progs (↑t : Int)).length : Int)) ∧ mayD.pre (Instr.mk (at2 (at3 c.progs (↑t : Int)) (↑i : Int)).op (at2 (at3 c.progs (↑t : Int)) (↑i : Int)).a (at2 (at3 c.progs (↑t : Int)) (↑i : Int)).b (at2 (at3
 c.progs (↑t : Int)) (↑i : Int)).c (at2 (at3 c.progs (↑t : Int)) (↑i : Int)).n, ()) ∧ ((!mayB (Instr.mk (at2 (at3 c.progs (↑t : Int)) (↑i : Int)).op (at2 (at3 c.progs (↑t : Int)) (↑i : Int)).a (at2 (at3 c.progs (↑t :
 Int)) (↑i : Int)).b (at2 (at3 c.progs (↑t : Int)) (↑i : Int)).c (at2 (at3 c.progs (↑t : Int)) (↑i : Int)).n)) = true → (1 : Int) = (pwC c t).fst ∧ (↑i : Int) = (pwC c t).snd.snd ∧ True) ∧ ((!mayB (Instr.mk (at2 (at3
 c.progs (↑t : Int)) (↑i : Int)).op (at2 (at3 c.progs (↑t : Int)) (↑i : Int)).a (at2 (at3 c.progs (↑t : Int)) (↑i : Int)).b (at2 (at3 c.progs (↑t : Int)) (↑i : Int)).c (at2 (at3 c.progs (↑t : Int)) (↑i : Int)).n)) = false
 → ∃ (s : Nat), (↑t : Int) = (↑t : Int) ∧ c.engine = c.engine ∧ c.clock = c.clock ∧ c.stripes = c.stripes ∧ c.reads = c.reads ∧ c.writes = c.writes ∧ c.retry = c.retry ∧ c.fuel = c.fuel ∧ c.most = c.most ∧ c.init = c.init
 ∧ c.locks = c.locks ∧ c.conds = c.conds ∧ c.progs = c.progs ∧ at3 c.progs (↑t : Int) = at3 c.progs (↑t : Int) ∧ IntKind.i64.wrap ((↑i : Int) + 1) = (↑s : Int) ∧ (s ≤ (at3 c.progs (↑t : Int)).length ∧ (at3 c.progs (↑t :
 Int)).length ≤ 48 ∧ mayGo (at3 c.progs (↑t : Int)) ((at3 c.progs (↑t : Int)).length - s) s = mayGo (at3 c.progs (↑t : Int)) (at3 c.progs (↑t : Int)).length (0 : Nat) ∧ ∀ (k : Nat), k < s → mayB (at2 (at3 c.progs (↑t :
 Int)) (↑k : Int)) = true) ∧ (200 : Nat) - s < 200 - i ∧ True)) ∧ (decide ((↑i : Int) < (↑(at3 c.progs (↑t : Int)).length : Int)) = false → rmD.pre (at3 c.progs (↑t : Int), ()) ∧ (decide ((matesR (at3 c.progs (↑t :
 Int))).snd ≥ (0 : Int)) = true → (5 : Int) = (pwC c t).fst ∧ (matesR (at3 c.progs (↑t : Int))).snd = (pwC c t).snd.snd ∧ True) ∧ (decide ((matesR (at3 c.progs (↑t : Int))).snd ≥ (0 : Int)) = false → ∃ (s : RpS), (↑t :
 Int) = (↑t : Int) ∧ c.engine = c.engine ∧ c.clock = c.clock ∧ c.stripes = c.stripes ∧ c.reads = c.reads ∧ c.writes = c.writes ∧ c.retry = c.retry ∧ c.fuel = c.fuel ∧ c.most = c.most ∧ c.init = c.init ∧ c.locks = c.locks
 ∧ c.conds = c.conds ∧ c.progs = c.progs ∧ at3 c.progs (↑t : Int) = at3 c.progs (↑t : Int) ∧ [] = s.o ∧ (0 : Int) = s.last ∧ (0 : Int) = s.loops ∧ (0 : Int) = (↑s.g.i : Int) ∧ (pgI c t (at3 c.progs (↑t : Int)) s.g ∧ rLink
 (at3 c.progs (↑t : Int)) s) ∧ (100 : Nat) - s.g.i < 200 - i ∧ True))) := by kernel_rfl
theorem rq_16 (c : Config) (t i : Nat) (ws : WS) (q : MS) (o : List Int) (last loops : Int) : Go.Sy.Tree.holds (cutVC F (lookC r2) 300 Tryd.f52 b52 (rpF c t) 16 (rpC16 c t) ⟨⟨i, ws, q⟩, o, last, loops⟩) = ( (decide
 ((↑(PgS.mk i ws q).i : Int) < (↑(at3 c.progs (↑t : Int)).length : Int)) = true → ((0 : Int) ≤ (↑(PgS.mk i ws q).i : Int) ∧ (↑(PgS.mk i ws q).i : Int) < (↑(at3 c.progs (↑t : Int)).length : Int)) ∧ (((at2 (at3 c.progs (↑t
 : Int)) (↑(PgS.mk i ws q).i : Int)).op == 13) = true → ((0 : Int) ≤ (↑(PgS.mk i ws q).i : Int) ∧ (↑(PgS.mk i ws q).i : Int) < (↑(at3 c.progs (↑t : Int)).length : Int)) ∧ (decide ((at2 (at3 c.progs (↑t : Int)) (↑(PgS.mk i
 ws q).i : Int)).a ≥ (↑c.locks.length : Int)) = true → (6 : Int) = (pwC c t).fst ∧ (↑(PgS.mk i ws q).i : Int) = (pwC c t).snd.snd ∧ True) ∧ (decide ((at2 (at3 c.progs (↑t : Int)) (↑(PgS.mk i ws q).i : Int)).a ≥
 (↑c.locks.length : Int)) = false → (((at2 (at3 c.progs (↑t : Int)) (↑(PgS.mk i ws q).i : Int)).b == 1) = true → ((0 : Int) ≤ (at2 (at3 c.progs (↑t : Int)) (↑(PgS.mk i ws q).i : Int)).a ∧ (at2 (at3 c.progs (↑t : Int))
 (↑(PgS.mk i ws q).i : Int)).a < (↑c.locks.length : Int)) ∧ (((at1 c.locks (at2 (at3 c.progs (↑t : Int)) (↑(PgS.mk i ws q).i : Int)).a).kind != 3) = true → (7 : Int) = (pwC c t).fst ∧ (↑(PgS.mk i ws q).i : Int) = (pwC c
 t).snd.snd ∧ True) ∧ (((at1 c.locks (at2 (at3 c.progs (↑t : Int)) (↑(PgS.mk i ws q).i : Int)).a).kind != 3) = false → (decide ((↑o.length : Int) ≥ (3 : Int)) = true → (5 : Int) = (pwC c t).fst ∧ (↑(PgS.mk i ws q).i :
 Int) = (pwC c t).snd.snd ∧ True) ∧ (decide ((↑o.length : Int) ≥ (3 : Int)) = false → (decide ((↑o.length : Int) > 0) = true → (decide (loops > 0) = true → (8 : Int) = (pwC c t).fst ∧ (↑(PgS.mk i ws q).i : Int) = (pwC c
 t).snd.snd ∧ True) ∧ (decide (loops > 0) = false → (decide ((at2 (at3 c.progs (↑t : Int)) (↑(PgS.mk i ws q).i : Int)).a ≤ last) = true → (8 : Int) = (pwC c t).fst ∧ (↑(PgS.mk i ws q).i : Int) = (pwC c t).snd.snd ∧ True)
 ∧ (decide ((at2 (at3 c.progs (↑t : Int)) (↑(PgS.mk i ws q).i : Int)).a ≤ last) = false → (((↑o.length : Int) == 0) = true → (o.length + [(↑(PgS.mk i ws q).i : Int)].length) * 8 ≤ 140737488355328 ∧ ∃ (s : RpS), (↑t : Int)
 = (↑t : Int) ∧ c.engine = c.engine ∧ c.clock = c.clock ∧ c.stripes = c.stripes ∧ c.reads = c.reads ∧ c.writes = c.writes ∧ c.retry = c.retry ∧ c.fuel = c.fuel ∧ c.most = c.most ∧ c.init = c.init ∧ c.locks = c.locks ∧
 c.conds = c.conds ∧ c.progs = c.progs ∧ at3 c.progs (↑t : Int) = at3 c.progs (↑t : Int) ∧ o ++ [(↑(PgS.mk i ws q).i : Int)] = s.o ∧ (at2 (at3 c.progs (↑t : Int)) (↑(PgS.mk i ws q).i : Int)).a = s.last ∧ (0 : Int) =
 s.loops ∧ IntKind.i64.wrap ((↑(PgS.mk i ws q).i : Int) + 1) = (↑s.g.i : Int) ∧ (pgI c t (at3 c.progs (↑t : Int)) s.g ∧ rLink (at3 c.progs (↑t : Int)) s) ∧ (100 : Nat) - s.g.i < 100 - (PgS.mk i ws q).i ∧ True) ∧
 (((↑o.length : Int) == 0) = false → (o.length + [(↑(PgS.mk i ws q).i : Int)].length) * 8 ≤ 140737488355328 ∧ ∃ (s : RpS), (↑t : Int) = (↑t : Int) ∧ c.engine = c.engine ∧ c.clock = c.clock ∧ c.stripes = c.stripes ∧
 c.reads = c.reads ∧ c.writes = c.writes ∧ c.retry = c.retry ∧ c.fuel = c.fuel ∧ c.most = c.most ∧ c.init = c.init ∧ c.locks = c.locks ∧ c.conds = c.conds ∧ c.progs = c.progs ∧ at3 c.progs (↑t : Int) = at3 c.progs (↑t :
 Int) ∧ o ++ [(↑(PgS.mk i ws q).i : Int)] = s.o ∧ (at2 (at3 c.progs (↑t : Int)) (↑(PgS.mk i ws q).i : Int)).a = s.last ∧ loops = s.loops ∧ IntKind.i64.wrap ((↑(PgS.mk i ws q).i : Int) + 1) = (↑s.g.i : Int) ∧ (pgI c t (at3
 c.progs (↑t : Int)) s.g ∧ rLink (at3 c.progs (↑t : Int)) s) ∧ (100 : Nat) - s.g.i < 100 - (PgS.mk i ws q).i ∧ True)))) ∧ (decide ((↑o.length : Int) > 0) = false → (((↑o.length : Int) == 0) = true → (o.length + [(↑(PgS.mk
 i ws q).i : Int)].length) * 8 ≤ 140737488355328 ∧ ∃ (s : RpS), (↑t : Int) = (↑t : Int) ∧ c.engine = c.engine ∧ c.clock = c.clock ∧ c.stripes = c.stripes ∧ c.reads = c.reads ∧ c.writes = c.writes ∧ c.retry = c.retry ∧
 c.fuel = c.fuel ∧ c.most = c.most ∧ c.init = c.init ∧ c.locks = c.locks ∧ c.conds = c.conds ∧ c.progs = c.progs ∧ at3 c.progs (↑t : Int) = at3 c.progs (↑t : Int) ∧ o ++ [(↑(PgS.mk i ws q).i : Int)] = s.o ∧ (at2 (at3
 c.progs (↑t : Int)) (↑(PgS.mk i ws q).i : Int)).a = s.last ∧ (0 : Int) = s.loops ∧ IntKind.i64.wrap ((↑(PgS.mk i ws q).i : Int) + 1) = (↑s.g.i : Int) ∧ (pgI c t (at3 c.progs (↑t : Int)) s.g ∧ rLink (at3 c.progs (↑t :
 Int)) s) ∧ (100 : Nat) - s.g.i < 100 - (PgS.mk i ws q).i ∧ True) ∧ (((↑o.length : Int) == 0) = false → (o.length + [(↑(PgS.mk i ws q).i : Int)].length) * 8 ≤ 140737488355328 ∧ ∃ (s : RpS), (↑t : Int) = (↑t : Int) ∧
 c.engine = c.engine ∧ c.clock = c.clock ∧ c.stripes = c.stripes ∧ c.reads = c.reads ∧ c.writes = c.writes ∧ c.retry = c.retry ∧ c.fuel = c.fuel ∧ c.most = c.most ∧ c.init = c.init ∧ c.locks = c.locks ∧ c.conds = c.conds
 ∧ c.progs = c.progs ∧ at3 c.progs (↑t : Int) = at3 c.progs (↑t : Int) ∧ o ++ [(↑(PgS.mk i ws q).i : Int)] = s.o ∧ (at2 (at3 c.progs (↑t : Int)) (↑(PgS.mk i ws q).i : Int)).a = s.last ∧ loops = s.loops ∧ IntKind.i64.wrap
 ((↑(PgS.mk i ws q).i : Int) + 1) = (↑s.g.i : Int) ∧ (pgI c t (at3 c.progs (↑t : Int)) s.g ∧ rLink (at3 c.progs (↑t : Int)) s) ∧ (100 : Nat) - s.g.i < 100 - (PgS.mk i ws q).i ∧ True))))) ∧ (((at2 (at3 c.progs (↑t : Int))
 (↑(PgS.mk i ws q).i : Int)).b == 1) = false → (decide ((↑o.length : Int) ≥ (3 : Int)) = true → (5 : Int) = (pwC c t).fst ∧ (↑(PgS.mk i ws q).i : Int) = (pwC c t).snd.snd ∧ True) ∧ (decide ((↑o.length : Int) ≥ (3 : Int))
 = false → (decide ((↑o.length : Int) > 0) = true → (decide (loops > 0) = true → (8 : Int) = (pwC c t).fst ∧ (↑(PgS.mk i ws q).i : Int) = (pwC c t).snd.snd ∧ True) ∧ (decide (loops > 0) = false → (decide ((at2 (at3
 c.progs (↑t : Int)) (↑(PgS.mk i ws q).i : Int)).a ≤ last) = true → (8 : Int) = (pwC c t).fst ∧ (↑(PgS.mk i ws q).i : Int) = (pwC c t).snd.snd ∧ True) ∧ (decide ((at2 (at3 c.progs (↑t : Int)) (↑(PgS.mk i ws q).i : Int)).a
 ≤ last) = false → (((↑o.length : Int) == 0) = true → (o.length + [(↑(PgS.mk i ws q).i : Int)].length) * 8 ≤ 140737488355328 ∧ ∃ (s : RpS), (↑t : Int) = (↑t : Int) ∧ c.engine = c.engine ∧ c.clock = c.clock ∧ c.stripes =
 c.stripes ∧ c.reads = c.reads ∧ c.writes = c.writes ∧ c.retry = c.retry ∧ c.fuel = c.fuel ∧ c.most = c.most ∧ c.init = c.init ∧ c.locks = c.locks ∧ c.conds = c.conds ∧ c.progs = c.progs ∧ at3 c.progs (↑t : Int) = at3
 c.progs (↑t : Int) ∧ o ++ [(↑(PgS.mk i ws q).i : Int)] = s.o ∧ (at2 (at3 c.progs (↑t : Int)) (↑(PgS.mk i ws q).i : Int)).a = s.last ∧ (0 : Int) = s.loops ∧ IntKind.i64.wrap ((↑(PgS.mk i ws q).i : Int) + 1) = (↑s.g.i :
 Int) ∧ (pgI c t (at3 c.progs (↑t : Int)) s.g ∧ rLink (at3 c.progs (↑t : Int)) s) ∧ (100 : Nat) - s.g.i < 100 - (PgS.mk i ws q).i ∧ True) ∧ (((↑o.length : Int) == 0) = false → (o.length + [(↑(PgS.mk i ws q).i :
 Int)].length) * 8 ≤ 140737488355328 ∧ ∃ (s : RpS), (↑t : Int) = (↑t : Int) ∧ c.engine = c.engine ∧ c.clock = c.clock ∧ c.stripes = c.stripes ∧ c.reads = c.reads ∧ c.writes = c.writes ∧ c.retry = c.retry ∧ c.fuel = c.fuel
 ∧ c.most = c.most ∧ c.init = c.init ∧ c.locks = c.locks ∧ c.conds = c.conds ∧ c.progs = c.progs ∧ at3 c.progs (↑t : Int) = at3 c.progs (↑t : Int) ∧ o ++ [(↑(PgS.mk i ws q).i : Int)] = s.o ∧ (at2 (at3 c.progs (↑t : Int))
 (↑(PgS.mk i ws q).i : Int)).a = s.last ∧ loops = s.loops ∧ IntKind.i64.wrap ((↑(PgS.mk i ws q).i : Int) + 1) = (↑s.g.i : Int) ∧ (pgI c t (at3 c.progs (↑t : Int)) s.g ∧ rLink (at3 c.progs (↑t : Int)) s) ∧ (100 : Nat) -
 s.g.i < 100 - (PgS.mk i ws q).i ∧ True)))) ∧ (decide ((↑o.length : Int) > 0) = false → (((↑o.length : Int) == 0) = true → (o.length + [(↑(PgS.mk i ws q).i : Int)].length) * 8 ≤ 140737488355328 ∧ ∃ (s : RpS), (↑t : Int) =
 (↑t : Int) ∧ c.engine = c.engine ∧ c.clock = c.clock ∧ c.stripes = c.stripes ∧ c.reads = c.reads ∧ c.writes = c.writes ∧ c.retry = c.retry ∧ c.fuel = c.fuel ∧ c.most = c.most ∧ c.init = c.init ∧ c.locks = c.locks ∧
 c.conds = c.conds ∧ c.progs = c.progs ∧ at3 c.progs (↑t : Int) = at3 c.progs (↑t : Int) ∧ o ++ [(↑(PgS.mk i ws q).i : Int)] = s.o ∧ (at2 (at3 c.progs (↑t : Int)) (↑(PgS.mk i ws q).i : Int)).a = s.last ∧ (0 : Int) =
 s.loops ∧ IntKind.i64.wrap ((↑(PgS.mk i ws q).i : Int) + 1) = (↑s.g.i : Int) ∧ (pgI c t (at3 c.progs (↑t : Int)) s.g ∧ rLink (at3 c.progs (↑t : Int)) s) ∧ (100 : Nat) - s.g.i < 100 - (PgS.mk i ws q).i ∧ True) ∧
 (((↑o.length : Int) == 0) = false → (o.length + [(↑(PgS.mk i ws q).i : Int)].length) * 8 ≤ 140737488355328 ∧ ∃ (s : RpS), (↑t : Int) = (↑t : Int) ∧ c.engine = c.engine ∧ c.clock = c.clock ∧ c.stripes = c.stripes ∧
 c.reads = c.reads ∧ c.writes = c.writes ∧ c.retry = c.retry ∧ c.fuel = c.fuel ∧ c.most = c.most ∧ c.init = c.init ∧ c.locks = c.locks ∧ c.conds = c.conds ∧ c.progs = c.progs ∧ at3 c.progs (↑t : Int) = at3 c.progs (↑t :
 Int) ∧ o ++ [(↑(PgS.mk i ws q).i : Int)] = s.o ∧ (at2 (at3 c.progs (↑t : Int)) (↑(PgS.mk i ws q).i : Int)).a = s.last ∧ loops = s.loops ∧ IntKind.i64.wrap ((↑(PgS.mk i ws q).i : Int) + 1) = (↑s.g.i : Int) ∧ (pgI c t (at3
 c.progs (↑t : Int)) s.g ∧ rLink (at3 c.progs (↑t : Int)) s) ∧ (100 : Nat) - s.g.i < 100 - (PgS.mk i ws q).i ∧ True)))))) ∧ (((at2 (at3 c.progs (↑t : Int)) (↑(PgS.mk i ws q).i : Int)).op == 13) = false → (((at2 (at3
 c.progs (↑t : Int)) (↑(PgS.mk i ws q).i : Int)).op == 14) = true → ((0 : Int) ≤ 0 ∧ (0 : Int) ≤ IntKind.i64.wrap ((↑o.length : Int) - 1) ∧ IntKind.i64.wrap ((↑o.length : Int) - 1) ≤ (↑o.length : Int)) ∧ ∃ (s : RpS), (↑t
 : Int) = (↑t : Int) ∧ c.engine = c.engine ∧ c.clock = c.clock ∧ c.stripes = c.stripes ∧ c.reads = c.reads ∧ c.writes = c.writes ∧ c.retry = c.retry ∧ c.fuel = c.fuel ∧ c.most = c.most ∧ c.init = c.init ∧ c.locks =
 c.locks ∧ c.conds = c.conds ∧ c.progs = c.progs ∧ at3 c.progs (↑t : Int) = at3 c.progs (↑t : Int) ∧ List.take ((IntKind.i64.wrap ((↑o.length : Int) - 1)).toNat - 0) (List.drop (0 : Nat) o) = s.o ∧ last = s.last ∧ loops =
 s.loops ∧ IntKind.i64.wrap ((↑(PgS.mk i ws q).i : Int) + 1) = (↑s.g.i : Int) ∧ (pgI c t (at3 c.progs (↑t : Int)) s.g ∧ rLink (at3 c.progs (↑t : Int)) s) ∧ (100 : Nat) - s.g.i < 100 - (PgS.mk i ws q).i ∧ True) ∧ (((at2
 (at3 c.progs (↑t : Int)) (↑(PgS.mk i ws q).i : Int)).op == 14) = false → (((at2 (at3 c.progs (↑t : Int)) (↑(PgS.mk i ws q).i : Int)).op == 21) = true → (decide ((↑o.length : Int) > 0) = true → ((0 : Int) ≤ (↑(PgS.mk i ws
 q).i : Int) ∧ (↑(PgS.mk i ws q).i : Int) < (↑(at3 c.progs (↑t : Int)).length : Int)) ∧ (((at2 (at3 c.progs (↑t : Int)) (↑(PgS.mk i ws q).i : Int)).op == 21) = true → ∃ (s : RpS), (↑t : Int) = (↑t : Int) ∧ c.engine =
 c.engine ∧ c.clock = c.clock ∧ c.stripes = c.stripes ∧ c.reads = c.reads ∧ c.writes = c.writes ∧ c.retry = c.retry ∧ c.fuel = c.fuel ∧ c.most = c.most ∧ c.init = c.init ∧ c.locks = c.locks ∧ c.conds = c.conds ∧ c.progs =
 c.progs ∧ at3 c.progs (↑t : Int) = at3 c.progs (↑t : Int) ∧ o = s.o ∧ last = s.last ∧ IntKind.i64.wrap (loops + 1) = s.loops ∧ IntKind.i64.wrap ((↑(PgS.mk i ws q).i : Int) + 1) = (↑s.g.i : Int) ∧ (pgI c t (at3 c.progs
 (↑t : Int)) s.g ∧ rLink (at3 c.progs (↑t : Int)) s) ∧ (100 : Nat) - s.g.i < 100 - (PgS.mk i ws q).i ∧ True) ∧ (((at2 (at3 c.progs (↑t : Int)) (↑(PgS.mk i ws q).i : Int)).op == 21) = false → (decide ((↑o.length : Int) >
 0) = true → ∃ (s : RpS), (↑t : Int) = (↑t : Int) ∧ c.engine = c.engine ∧ c.clock = c.clock ∧ c.stripes = c.stripes ∧ c.reads = c.reads ∧ c.writes = c.writes ∧ c.retry = c.retry ∧ c.fuel = c.fuel ∧ c.most = c.most ∧
 c.init = c.init ∧ c.locks = c.locks ∧ c.conds = c.conds ∧ c.progs = c.progs ∧ at3 c.progs (↑t : Int) = at3 c.progs (↑t : Int) ∧ o = s.o ∧ last = s.last ∧ IntKind.i64.wrap (loops - 1) = s.loops ∧ IntKind.i64.wrap
 ((↑(PgS.mk i ws q).i : Int) + 1) = (↑s.g.i : Int) ∧ (pgI c t (at3 c.progs (↑t : Int)) s.g ∧ rLink (at3 c.progs (↑t : Int)) s) ∧ (100 : Nat) - s.g.i < 100 - (PgS.mk i ws q).i ∧ True) ∧ (decide ((↑o.length : Int) > 0) =
 false → ∃ (s : RpS), (↑t : Int) = (↑t : Int) ∧ c.engine = c.engine ∧ c.clock = c.clock ∧ c.stripes = c.stripes ∧ c.reads = c.reads ∧ c.writes = c.writes ∧ c.retry = c.retry ∧ c.fuel = c.fuel ∧ c.most = c.most ∧ c.init =
 c.init ∧ c.locks = c.locks ∧ c.conds = c.conds ∧ c.progs = c.progs ∧ at3 c.progs (↑t : Int) = at3 c.progs (↑t : Int) ∧ o = s.o ∧ last = s.last ∧ loops = s.loops ∧ IntKind.i64.wrap ((↑(PgS.mk i ws q).i : Int) + 1) =
 (↑s.g.i : Int) ∧ (pgI c t (at3 c.progs (↑t : Int)) s.g ∧ rLink (at3 c.progs (↑t : Int)) s) ∧ (100 : Nat) - s.g.i < 100 - (PgS.mk i ws q).i ∧ True))) ∧ (decide ((↑o.length : Int) > 0) = false → (decide ((↑o.length : Int)
 > 0) = true → ∃ (s : RpS), (↑t : Int) = (↑t : Int) ∧ c.engine = c.engine ∧ c.clock = c.clock ∧ c.stripes = c.stripes ∧ c.reads = c.reads ∧ c.writes = c.writes ∧ c.retry = c.retry ∧ c.fuel = c.fuel ∧ c.most = c.most ∧
 c.init = c.init ∧ c.locks = c.locks ∧ c.conds = c.conds ∧ c.progs = c.progs ∧ at3 c.progs (↑t : Int) = at3 c.progs (↑t : Int) ∧ o = s.o ∧ last = s.last ∧ IntKind.i64.wrap (loops - 1) = s.loops ∧ IntKind.i64.wrap
 ((↑(PgS.mk i ws q).i : Int) + 1) = (↑s.g.i : Int) ∧ (pgI c t (at3 c.progs (↑t : Int)) s.g ∧ rLink (at3 c.progs (↑t : Int)) s) ∧ (100 : Nat) - s.g.i < 100 - (PgS.mk i ws q).i ∧ True) ∧ (decide ((↑o.length : Int) > 0) =
 false → ∃ (s : RpS), (↑t : Int) = (↑t : Int) ∧ c.engine = c.engine ∧ c.clock = c.clock ∧ c.stripes = c.stripes ∧ c.reads = c.reads ∧ c.writes = c.writes ∧ c.retry = c.retry ∧ c.fuel = c.fuel ∧ c.most = c.most ∧ c.init =
 c.init ∧ c.locks = c.locks ∧ c.conds = c.conds ∧ c.progs = c.progs ∧ at3 c.progs (↑t : Int) = at3 c.progs (↑t : Int) ∧ o = s.o ∧ last = s.last ∧ loops = s.loops ∧ IntKind.i64.wrap ((↑(PgS.mk i ws q).i : Int) + 1) =
 (↑s.g.i : Int) ∧ (pgI c t (at3 c.progs (↑t : Int)) s.g ∧ rLink (at3 c.progs (↑t : Int)) s) ∧ (100 : Nat) - s.g.i < 100 - (PgS.mk i ws q).i ∧ True))) ∧ (((at2 (at3 c.progs (↑t : Int)) (↑(PgS.mk i ws q).i : Int)).op == 21)
 = false → (((at2 (at3 c.progs (↑t : Int)) (↑(PgS.mk i ws q).i : Int)).op == 22) = true → (decide ((↑o.length : Int) > 0) = true → ((0 : Int) ≤ (↑(PgS.mk i ws q).i : Int) ∧ (↑(PgS.mk i ws q).i : Int) < (↑(at3 c.progs (↑t
 : Int)).length : Int)) ∧ (((at2 (at3 c.progs (↑t : Int)) (↑(PgS.mk i ws q).i : Int)).op == 21) = true → ∃ (s : RpS), (↑t : Int) = (↑t : Int) ∧ c.engine = c.engine ∧ c.clock = c.clock ∧ c.stripes = c.stripes ∧ c.reads =
 c.reads ∧ c.writes = c.writes ∧ c.retry = c.retry ∧ c.fuel = c.fuel ∧ c.most = c.most ∧ c.init = c.init ∧ c.locks = c.locks ∧ c.conds = c.conds ∧ c.progs = c.progs ∧ at3 c.progs (↑t : Int) = at3 c.progs (↑t : Int) ∧ o =
 s.o ∧ last = s.last ∧ IntKind.i64.wrap (loops + 1) = s.loops ∧ IntKind.i64.wrap ((↑(PgS.mk i ws q).i : Int) + 1) = (↑s.g.i : Int) ∧ (pgI c t (at3 c.progs (↑t : Int)) s.g ∧ rLink (at3 c.progs (↑t : Int)) s) ∧ (100 : Nat)
 - s.g.i < 100 - (PgS.mk i ws q).i ∧ True) ∧ (((at2 (at3 c.progs (↑t : Int)) (↑(PgS.mk i ws q).i : Int)).op == 21) = false → (decide ((↑o.length : Int) > 0) = true → ∃ (s : RpS), (↑t : Int) = (↑t : Int) ∧ c.engine =
 c.engine ∧ c.clock = c.clock ∧ c.stripes = c.stripes ∧ c.reads = c.reads ∧ c.writes = c.writes ∧ c.retry = c.retry ∧ c.fuel = c.fuel ∧ c.most = c.most ∧ c.init = c.init ∧ c.locks = c.locks ∧ c.conds = c.conds ∧ c.progs =
 c.progs ∧ at3 c.progs (↑t : Int) = at3 c.progs (↑t : Int) ∧ o = s.o ∧ last = s.last ∧ IntKind.i64.wrap (loops - 1) = s.loops ∧ IntKind.i64.wrap ((↑(PgS.mk i ws q).i : Int) + 1) = (↑s.g.i : Int) ∧ (pgI c t (at3 c.progs
 (↑t : Int)) s.g ∧ rLink (at3 c.progs (↑t : Int)) s) ∧ (100 : Nat) - s.g.i < 100 - (PgS.mk i ws q).i ∧ True) ∧ (decide ((↑o.length : Int) > 0) = false → ∃ (s : RpS), (↑t : Int) = (↑t : Int) ∧ c.engine = c.engine ∧ c.clock
 = c.clock ∧ c.stripes = c.stripes ∧ c.reads = c.reads ∧ c.writes = c.writes ∧ c.retry = c.retry ∧ c.fuel = c.fuel ∧ c.most = c.most ∧ c.init = c.init ∧ c.locks = c.locks ∧ c.conds = c.conds ∧ c.progs = c.progs ∧ at3
 c.progs (↑t : Int) = at3 c.progs (↑t : Int) ∧ o = s.o ∧ last = s.last ∧ loops = s.loops ∧ IntKind.i64.wrap ((↑(PgS.mk i ws q).i : Int) + 1) = (↑s.g.i : Int) ∧ (pgI c t (at3 c.progs (↑t : Int)) s.g ∧ rLink (at3 c.progs
 (↑t : Int)) s) ∧ (100 : Nat) - s.g.i < 100 - (PgS.mk i ws q).i ∧ True))) ∧ (decide ((↑o.length : Int) > 0) = false → (decide ((↑o.length : Int) > 0) = true → ∃ (s : RpS), (↑t : Int) = (↑t : Int) ∧ c.engine = c.engine ∧
 c.clock = c.clock ∧ c.stripes = c.stripes ∧ c.reads = c.reads ∧ c.writes = c.writes ∧ c.retry = c.retry ∧ c.fuel = c.fuel ∧ c.most = c.most ∧ c.init = c.init ∧ c.locks = c.locks ∧ c.conds = c.conds ∧ c.progs = c.progs ∧
 at3 c.progs (↑t : Int) = at3 c.progs (↑t : Int) ∧ o = s.o ∧ last = s.last ∧ IntKind.i64.wrap (loops - 1) = s.loops ∧ IntKind.i64.wrap ((↑(PgS.mk i ws q).i : Int) + 1) = (↑s.g.i : Int) ∧ (pgI c t (at3 c.progs (↑t : Int))
 s.g ∧ rLink (at3 c.progs (↑t : Int)) s) ∧ (100 : Nat) - s.g.i < 100 - (PgS.mk i ws q).i ∧ True) ∧ (decide ((↑o.length : Int) > 0) = false → ∃ (s : RpS), (↑t : Int) = (↑t : Int) ∧ c.engine = c.engine ∧ c.clock = c.clock ∧
 c.stripes = c.stripes ∧ c.reads = c.reads ∧ c.writes = c.writes ∧ c.retry = c.retry ∧ c.fuel = c.fuel ∧ c.most = c.most ∧ c.init = c.init ∧ c.locks = c.locks ∧ c.conds = c.conds ∧ c.progs = c.progs ∧ at3 c.progs (↑t :
 Int) = at3 c.progs (↑t : Int) ∧ o = s.o ∧ last = s.last ∧ loops = s.loops ∧ IntKind.i64.wrap ((↑(PgS.mk i ws q).i : Int) + 1) = (↑s.g.i : Int) ∧ (pgI c t (at3 c.progs (↑t : Int)) s.g ∧ rLink (at3 c.progs (↑t : Int)) s) ∧
 (100 : Nat) - s.g.i < 100 - (PgS.mk i ws q).i ∧ True))) ∧ (((at2 (at3 c.progs (↑t : Int)) (↑(PgS.mk i ws q).i : Int)).op == 22) = false → reD.pre (Rk.mk o last loops, Config.mk c.engine c.clock c.stripes c.reads c.writes
 c.retry c.fuel c.most c.init c.locks c.conds c.progs, at3 c.progs (↑t : Int), (↑(PgS.mk i ws q).i : Int), ()) ∧ ((restR (Config.mk c.engine c.clock c.stripes c.reads c.writes c.retry c.fuel c.most c.init c.locks c.conds
 c.progs).conds (at3 c.progs (↑t : Int)) (Rk.mk o last loops).o (at2 (at3 c.progs (↑t : Int)) (↑(PgS.mk i ws q).i : Int)) != 0) = true → restR (Config.mk c.engine c.clock c.stripes c.reads c.writes c.retry c.fuel c.most
 c.init c.locks c.conds c.progs).conds (at3 c.progs (↑t : Int)) (Rk.mk o last loops).o (at2 (at3 c.progs (↑t : Int)) (↑(PgS.mk i ws q).i : Int)) = (pwC c t).fst ∧ (↑(PgS.mk i ws q).i : Int) = (pwC c t).snd.snd ∧ True) ∧
 ((restR (Config.mk c.engine c.clock c.stripes c.reads c.writes c.retry c.fuel c.most c.init c.locks c.conds c.progs).conds (at3 c.progs (↑t : Int)) (Rk.mk o last loops).o (at2 (at3 c.progs (↑t : Int)) (↑(PgS.mk i ws q).i
 : Int)) != 0) = false → ∃ (s : RpS), (↑t : Int) = (↑t : Int) ∧ c.engine = c.engine ∧ c.clock = c.clock ∧ c.stripes = c.stripes ∧ c.reads = c.reads ∧ c.writes = c.writes ∧ c.retry = c.retry ∧ c.fuel = c.fuel ∧ c.most =
 c.most ∧ c.init = c.init ∧ c.locks = c.locks ∧ c.conds = c.conds ∧ c.progs = c.progs ∧ at3 c.progs (↑t : Int) = at3 c.progs (↑t : Int) ∧ o = s.o ∧ last = s.last ∧ loops = s.loops ∧ IntKind.i64.wrap ((↑(PgS.mk i ws q).i :
 Int) + 1) = (↑s.g.i : Int) ∧ (pgI c t (at3 c.progs (↑t : Int)) s.g ∧ rLink (at3 c.progs (↑t : Int)) s) ∧ (100 : Nat) - s.g.i < 100 - (PgS.mk i ws q).i ∧ True)))))) ∧ (decide ((↑(PgS.mk i ws q).i : Int) < (↑(at3 c.progs
 (↑t : Int)).length : Int)) = false → (0 : Int) = (pwC c t).fst ∧ (0 : Int) = (pwC c t).snd.snd ∧ True)) := by kernel_rfl

section
variable {c : Config} {t : Nat} {p : List Instr} {i : Nat} {ws : WS} {q : MS} {o : List Int} {last loops : Int}
theorem may_b {x : Instr} (h : mayB x = true) : 0 ≤ x.b := by
  simp only [mayB, Bool.and_eq_true] at h
  have := h.2.2.2.1
  simp only [fitB, Bool.and_eq_true, decide_eq_true_eq] at this
  exact this.1
theorem find_fold {cs : List Int} {a : Int} (h0 : 0 ≤ a) (h1 : a < cs.length) : ∀ (l : List Instr) (v : Int), (l.Pairwise fun x y => x.a < y.a) → l.foldl (fun v y => if a ≥ 0 ∧ a < cs.length ∧ y.a = at0 cs a then y.b else v) v = match l.find? (fun y => y.a == at0 cs a) with
    | none => v
    | some y => y.b
  | [], v, hp => rfl
  | y :: l, v, hp => by
    rw [List.pairwise_cons] at hp
    rw [List.foldl_cons, find_fold h0 h1 l _ hp.2]
    by_cases e : y.a = at0 cs a
    · have hn : l.find? (fun y => y.a == at0 cs a) = none := List.find?_eq_none.2 fun z hz => by
        have := hp.1 z hz
        simp
        omega
      rw [if_pos ⟨h0, h1, e⟩, hn, List.find?_cons_of_pos (by simpa using e)]
    · rw [if_neg (fun x => e x.2.2), List.find?_cons_of_neg (by simpa using e)]
theorem mine_is {cs : List Int} {a : Int} (h0 : 0 ≤ a) (h1 : a < cs.length) (hp : (rW p o).Pairwise fun x y => x.a < y.a) : mineR cs p a o = match (rW p o).find? (fun y => y.a == at0 cs a) with
    | none => -1
    | some y => y.b := by
  rw [← find_fold h0 h1 (rW p o) (-1) hp, rW, List.foldl_map]
  rfl
theorem rest_is (hm : mayB (at2 p i) = true) (hL : rLink p ⟨⟨i, ws, q⟩, o, last, loops⟩) (h1 : (at2 p i).op ≠ 13) : restR c.conds p o (at2 p i) = wcode c (at2 p i) ws := by
  obtain ⟨l1, l2, l3, l4, l5, l6⟩ := hL
  replace l1 : ws.o = rW p o := l1
  replace l5 : ws.o.Pairwise fun x y => x.a < y.a := l5
  replace l6 : ∀ x ∈ ws.o, x.a ≤ ws.top ∧ 0 ≤ x.b := l6
  have hl : ws.o.length = o.length := by rw [l1]; exact List.length_map _
  have hw : writesR p o = writesB ws.o := by rw [l1]; rfl
  have ha := may_a hm
  generalize at2 p i = x at ha h1 ⊢
  unfold wcode restR
  rw [if_neg h1, hw, hl]
  by_cases g9 : x.op = 9
  · rw [if_pos g9, if_pos g9]
  rw [if_neg g9, if_neg g9]
  by_cases g10 : x.op = 10 ∨ x.op = 11
  · rw [if_pos g10, if_pos g10]
  rw [if_neg g10, if_neg g10]
  by_cases g15 : x.op = 15
  · rw [if_pos (.inl g15), if_pos g15, waitF]
    by_cases ga : x.a ≥ c.conds.length
    · rw [if_pos ga, if_pos ga]
    rw [if_neg ga, if_neg ga, hl]
    have hmi := mine_is (cs := c.conds) (a := x.a) (p := p) (o := o) ha (by omega) (l1 ▸ l5)
    by_cases g1 : (o.length : Int) = 1
    · have : ∃ y, ws.o = [y] := List.length_eq_one_iff.1 (by omega)
      obtain ⟨y, hy⟩ := this
      rw [← l1, hy] at hmi
      have hyb := (l6 y (by rw [hy]; exact List.mem_singleton.2 rfl)).2
      rw [hy]
      have e0 : at2 [y] 0 = y := rfl
      rw [e0]
      by_cases e : y.a = at0 c.conds x.a
      · rw [List.find?_cons_of_pos (by simpa using e)] at hmi
        replace hmi : mineR c.conds p x.a o = y.b := hmi
        have hc2 : ¬ ((o.length : Int) ≠ 1 ∨ y.a ≠ at0 c.conds x.a) := fun z => z.elim (fun z => z g1) (fun z => z e)
        rw [if_neg hc2, hmi, if_neg (fun z => z.elim (fun z => by omega) (fun z => z.2 g1))]
      · rw [List.find?_cons_of_neg (by simpa using e)] at hmi
        replace hmi : mineR c.conds p x.a o = -1 := hmi
        rw [hmi, if_pos (.inl (by decide)), if_pos (.inr e)]
    · rw [if_pos (.inr ⟨g15, g1⟩), if_pos (.inl g1)]
  rw [if_neg g15]
  by_cases g16 : x.op = 16 ∨ x.op = 17
  · rw [if_pos (.inr g16), if_pos g16, wakeF]
    by_cases ga : x.a ≥ c.conds.length
    · rw [if_pos ga, if_pos ga]
    rw [if_neg ga, if_neg ga]
    have hmi := mine_is (cs := c.conds) (a := x.a) (p := p) (o := o) ha (by omega) (l1 ▸ l5)
    rw [← l1] at hmi
    cases hf : ws.o.find? (fun y => y.a == at0 c.conds x.a) with
    | none =>
      rw [hf] at hmi
      replace hmi : mineR c.conds p x.a o = -1 := hmi
      rw [hmi, if_pos (.inl (by decide))]
    | some y =>
      rw [hf] at hmi
      replace hmi : mineR c.conds p x.a o = y.b := hmi
      have hyb := (l6 y (List.mem_of_find?_eq_some hf)).2
      rw [hmi, if_neg (fun z => z.elim (fun z => by omega) (fun z => g15 z.1))]
  · rw [if_neg (by rintro (z | z); exact g15 z; exact g16 z), if_neg g16]
theorem rLink.len (hL : rLink p ⟨⟨i, ws, q⟩, o, last, loops⟩) : ws.o.length = o.length := by
  have l1 : ws.o = rW p o := hL.1
  rw [l1]
  exact List.length_map _
theorem link_enter {q' : MS} (hL : rLink p ⟨⟨i, ws, q⟩, o, last, loops⟩) (hi : i < p.length) (hm : mayB (at2 p i) = true) (h : (at2 p i).op = 13) (hz : wcode c (at2 p i) ws = 0) {lp : Int} (hlp : lp = if o.length = 0 then 0 else loops) : rLink p ⟨⟨i + 1, wnext (at2 p i) ws, q'⟩, o ++ [(i : Int)], (at2 p i).a, lp⟩ := by
  have hl := hL.len
  obtain ⟨l1, l2, l3, l4, l5, l6⟩ := hL
  replace l1 : ws.o = rW p o := l1
  replace l3 : o ≠ [] → ws.top = last ∧ ws.loops = loops := l3
  replace l4 : -(i : Int) ≤ loops ∧ loops ≤ i := l4
  replace l5 : ws.o.Pairwise fun x y => x.a < y.a := l5
  replace l6 : ∀ x ∈ ws.o, x.a ≤ ws.top ∧ 0 ≤ x.b := l6
  have ha := may_a hm
  have hb := may_b hm
  have hn : wnext (at2 p i) ws = ⟨ws.o ++ [at2 p i], mx (if (ws.o.length : Int) = 0 then -1 else ws.top) (at2 p i).a, if (ws.o.length : Int) = 0 then 0 else ws.loops⟩ := if_pos h
  have hord : o ≠ [] → ws.top < (at2 p i).a := fun hne => by
    have h0 : ¬ (ws.o.length : Int) = 0 := by
      have := List.length_pos_iff.2 hne
      omega
    rw [wcode, if_pos h] at hz
    by_cases e1 : (at2 p i).a ≥ c.locks.length
    · rw [if_pos e1] at hz
      exact absurd hz (by decide)
    rw [if_neg e1] at hz
    by_cases e2 : (at2 p i).b = 1 ∧ (at1 c.locks (at2 p i).a).kind ≠ 3
    · rw [if_pos e2] at hz
      exact absurd hz (by decide)
    rw [if_neg e2, if_neg h0] at hz
    by_cases e3 : (ws.o.length : Int) ≥ 3
    · rw [if_pos e3] at hz
      exact absurd hz (by decide)
    rw [if_neg e3] at hz
    by_cases e4 : ws.loops > 0 ∨ (at2 p i).a ≤ ws.top
    · rw [if_pos e4] at hz
      exact absurd hz (by decide)
    omega
  have htop : mx (if (ws.o.length : Int) = 0 then -1 else ws.top) (at2 p i).a = (at2 p i).a := by
    have e : (if (ws.o.length : Int) = 0 then -1 else ws.top) < (at2 p i).a := by
      by_cases h0 : o = []
      · rw [if_pos (by rw [hl, h0]; rfl)]; omega
      · have k1 := hord h0
        have k2 := List.length_pos_iff.2 h0
        rw [if_neg (by omega)]
        exact k1
    rw [mx, if_pos e]
  rw [htop] at hn
  rw [hn]
  refine ⟨?_, fun k hk => ?_, fun _ => ⟨rfl, ?_⟩, ?_, ?_, fun x hx => ?_⟩
  · show ws.o ++ [at2 p i] = rW p (o ++ [(i : Int)])
    rw [l1]
    simp [rW]
  · rcases List.mem_append.1 hk with hk | hk
    · exact l2 k hk
    · rw [List.mem_singleton] at hk
      rw [hk]
      omega
  · show (if (ws.o.length : Int) = 0 then 0 else ws.loops) = lp
    rw [hlp]
    by_cases h0 : o.length = 0
    · rw [if_pos (by omega), if_pos h0]
    · rw [if_neg (by omega), if_neg h0]
      exact (l3 (by rintro rfl; exact h0 rfl)).2
  · show -((i + 1 : Nat) : Int) ≤ lp ∧ lp ≤ ((i + 1 : Nat) : Int)
    rw [hlp]
    split <;> omega
  · refine List.pairwise_append.2 ⟨l5, List.pairwise_singleton _ _, fun x hx y hy => ?_⟩
    rw [List.mem_singleton] at hy
    subst hy
    have h0 : o ≠ [] := by
      rintro rfl
      have hnil : ws.o = [] := l1
      rw [hnil] at hx
      exact absurd hx List.not_mem_nil
    have := hord h0
    have := (l6 x hx).1
    omega
  · show x.a ≤ (at2 p i).a ∧ 0 ≤ x.b
    rcases List.mem_append.1 hx with hy | hy
    · have h0 : o ≠ [] := by
        rintro rfl
        have hnil : ws.o = [] := l1
        rw [hnil] at hy
        exact absurd hy List.not_mem_nil
      have := hord h0
      have := l6 x hy
      omega
    · rw [List.mem_singleton] at hy
      subst hy
      exact ⟨Int.le_refl _, hb⟩
theorem link_leave {q' : MS} (hL : rLink p ⟨⟨i, ws, q⟩, o, last, loops⟩) (h : (at2 p i).op = 14) : rLink p ⟨⟨i + 1, wnext (at2 p i) ws, q'⟩, o.take (o.length - 1), last, loops⟩ := by
  have hl := hL.len
  obtain ⟨l1, l2, l3, l4, l5, l6⟩ := hL
  replace l1 : ws.o = rW p o := l1
  replace l3 : o ≠ [] → ws.top = last ∧ ws.loops = loops := l3
  replace l4 : -(i : Int) ≤ loops ∧ loops ≤ i := l4
  have hn : wnext (at2 p i) ws = ⟨ws.o.take (ws.o.length - 1), ws.top, ws.loops⟩ := by rw [wnext, if_neg (by omega), if_pos h]
  rw [hn]
  refine ⟨?_, fun k hk => l2 k (List.mem_of_mem_take hk), fun hne => l3 (fun e => hne (by rw [e]; rfl)), ?_, List.Pairwise.sublist (List.take_sublist _ _) l5, fun x hx => l6 x (List.mem_of_mem_take hx)⟩
  · show ws.o.take (ws.o.length - 1) = rW p (o.take (o.length - 1))
    rw [hl, l1, rW, rW, List.map_take]
  · show -((i + 1 : Nat) : Int) ≤ loops ∧ loops ≤ ((i + 1 : Nat) : Int)
    omega
theorem link_same {q' : MS} {lp : Int} (hL : rLink p ⟨⟨i, ws, q⟩, o, last, loops⟩) (h13 : (at2 p i).op ≠ 13) (h14 : (at2 p i).op ≠ 14) (hlp : (lp = loops ∧ ((at2 p i).op ≠ 21 ∧ (at2 p i).op ≠ 22 ∨ o.length = 0)) ∨ (lp = loops + 1 ∧ (at2 p i).op = 21 ∧ o.length > 0) ∨ (lp = loops - 1 ∧ (at2 p i).op = 22 ∧ o.length > 0)) : rLink p ⟨⟨i + 1, wnext (at2 p i) ws, q'⟩, o, last, lp⟩ := by
  obtain ⟨l1, l2, l3, l4, l5, l6⟩ := hL
  replace l3 : o ≠ [] → ws.top = last ∧ ws.loops = loops := l3
  replace l4 : -(i : Int) ≤ loops ∧ loops ≤ i := l4
  have ho : (wnext (at2 p i) ws).o = ws.o ∧ (wnext (at2 p i) ws).top = ws.top := by
    rw [wnext, if_neg h13, if_neg h14]
    split
    · exact ⟨rfl, rfl⟩
    split
    · exact ⟨rfl, rfl⟩
    · exact ⟨rfl, rfl⟩
  refine ⟨ho.1.trans l1, l2, fun hne => ⟨ho.2.trans (l3 hne).1, ?_⟩, ?_, ?_, ?_⟩
  · have k := (l3 hne).2
    have hpos : 0 < o.length := List.length_pos_iff.2 hne
    show (wnext (at2 p i) ws).loops = lp
    rw [wnext, if_neg h13, if_neg h14]
    by_cases g21 : (at2 p i).op = 21
    · rw [if_pos g21]
      show ws.loops + 1 = lp
      omega
    · rw [if_neg g21]
      by_cases g22 : (at2 p i).op = 22
      · rw [if_pos g22]
        show ws.loops - 1 = lp
        omega
      · rw [if_neg g22]
        omega
  · show -((i + 1 : Nat) : Int) ≤ lp ∧ lp ≤ ((i + 1 : Nat) : Int)
    omega
  · show (wnext (at2 p i) ws).o.Pairwise _
    rw [ho.1]
    exact l5
  · show ∀ x ∈ (wnext (at2 p i) ws).o, x.a ≤ (wnext (at2 p i) ws).top ∧ 0 ≤ x.b
    rw [ho.1, ho.2]
    exact l6
end
end Go.Proofs.YtjboohjicdmidaaDoor

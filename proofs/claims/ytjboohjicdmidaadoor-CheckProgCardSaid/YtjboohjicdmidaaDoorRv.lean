/- The document's own walk: its 'rest' is paid. -/
import Derived.Test.YtjboohjicdmidaaDoorRz
namespace Go.Proofs.YtjboohjicdmidaaDoor
open Go.RowKit Go.Am Go.Sy
set_option linter.unusedVariables false
set_option linter.unusedSimpArgs false

theorem re_e (w : Rk) (c : Config) (p : List Instr) (i : Int) : Go.Sy.Tree.holds (entryX F (lookC []) 300 Tryd.f61 b61 ⟨[(4, reC w c p i)], .i .i64 (restR c.conds p w.o (at2 p i)), []⟩ [.fp (enc10 w), .agg (enc4 c), .tl
 (T := T) 2 p, .i .i64 i]) = ( ((0 : Int) ≤ i ∧ i < (↑p.length : Int)) ∧ ∃ (s : Nat), w.o = w.o ∧ w.last = w.last ∧ w.loops = w.loops ∧ p = p ∧ i = i ∧ c.engine = c.engine ∧ c.clock = c.clock ∧ c.stripes = c.stripes ∧
 c.reads = c.reads ∧ c.writes = c.writes ∧ c.retry = c.retry ∧ c.fuel = c.fuel ∧ c.most = c.most ∧ c.init = c.init ∧ c.locks = c.locks ∧ c.conds = c.conds ∧ c.progs = c.progs ∧ (at2 p i).op = (at2 p i).op ∧ (at2 p i).a =
 (at2 p i).a ∧ (at2 p i).b = (at2 p i).b ∧ (at2 p i).c = (at2 p i).c ∧ (at2 p i).n = (at2 p i).n ∧ false = writesR p (List.take s w.o) ∧ (-1 : Int) = mineR c.conds p (at2 p i).a (List.take s w.o) ∧ ((↑w.o.length : Int) ==
 1) = ((↑w.o.length : Int) == 1) ∧ (0 : Int) = (↑s : Int) ∧ s ≤ w.o.length ∧ True) := by kernel_rfl
theorem re_4 (w : Rk) (c : Config) (p : List Instr) (i : Int) (k : Nat) : Go.Sy.Tree.holds (cutVC F (lookC []) 300 Tryd.f61 b61 ⟨[(4, reC w c p i)], .i .i64 (restR c.conds p w.o (at2 p i)), []⟩ 4 (reC w c p i) k) = (
 (decide ((↑k : Int) < (↑w.o.length : Int)) = true → ((0 : Int) ≤ (↑k : Int) ∧ (↑k : Int) < (↑w.o.length : Int)) ∧ ((0 : Int) ≤ at0 w.o (↑k : Int) ∧ at0 w.o (↑k : Int) < (↑p.length : Int)) ∧ (writesR p (List.take k w.o) =
 true → (decide ((at2 p i).a ≥ (0 : Int)) = true → (decide ((at2 p i).a < (↑c.conds.length : Int)) = true → ((0 : Int) ≤ (at2 p i).a ∧ (at2 p i).a < (↑c.conds.length : Int)) ∧ (((at2 p (at0 w.o (↑k : Int))).a == at0
 c.conds (at2 p i).a) = true → ∃ (s : Nat), w.o = w.o ∧ w.last = w.last ∧ w.loops = w.loops ∧ p = p ∧ i = i ∧ c.engine = c.engine ∧ c.clock = c.clock ∧ c.stripes = c.stripes ∧ c.reads = c.reads ∧ c.writes = c.writes ∧
 c.retry = c.retry ∧ c.fuel = c.fuel ∧ c.most = c.most ∧ c.init = c.init ∧ c.locks = c.locks ∧ c.conds = c.conds ∧ c.progs = c.progs ∧ (at2 p i).op = (at2 p i).op ∧ (at2 p i).a = (at2 p i).a ∧ (at2 p i).b = (at2 p i).b ∧
 (at2 p i).c = (at2 p i).c ∧ (at2 p i).n = (at2 p i).n ∧ true = writesR p (List.take s w.o) ∧ (at2 p (at0 w.o (↑k : Int))).b = mineR c.conds p (at2 p i).a (List.take s w.o) ∧ ((↑w.o.length : Int) == 1) = ((↑w.o.length :
 Int) == 1) ∧ IntKind.i64.wrap ((↑k : Int) + 1) = (↑s : Int) ∧ s ≤ w.o.length ∧ w.o.length - s < w.o.length - k ∧ True) ∧ (((at2 p (at0 w.o (↑k : Int))).a == at0 c.conds (at2 p i).a) = false → ∃ (s : Nat), w.o = w.o ∧
 w.last = w.last ∧ w.loops = w.loops ∧ p = p ∧ i = i ∧ c.engine = c.engine ∧ c.clock = c.clock ∧ c.stripes = c.stripes ∧ c.reads = c.reads ∧ c.writes = c.writes ∧ c.retry = c.retry ∧ c.fuel = c.fuel ∧ c.most = c.most ∧
 c.init = c.init ∧ c.locks = c.locks ∧ c.conds = c.conds ∧ c.progs = c.progs ∧ (at2 p i).op = (at2 p i).op ∧ (at2 p i).a = (at2 p i).a ∧ (at2 p i).b = (at2 p i).b ∧ (at2 p i).c = (at2 p i).c ∧ (at2 p i).n = (at2 p i).n ∧
 true = writesR p (List.take s w.o) ∧ mineR c.conds p (at2 p i).a (List.take k w.o) = mineR c.conds p (at2 p i).a (List.take s w.o) ∧ ((↑w.o.length : Int) == 1) = ((↑w.o.length : Int) == 1) ∧ IntKind.i64.wrap ((↑k : Int)
 + 1) = (↑s : Int) ∧ s ≤ w.o.length ∧ w.o.length - s < w.o.length - k ∧ True)) ∧ (decide ((at2 p i).a < (↑c.conds.length : Int)) = false → ∃ (s : Nat), w.o = w.o ∧ w.last = w.last ∧ w.loops = w.loops ∧ p = p ∧ i = i ∧
 c.engine = c.engine ∧ c.clock = c.clock ∧ c.stripes = c.stripes ∧ c.reads = c.reads ∧ c.writes = c.writes ∧ c.retry = c.retry ∧ c.fuel = c.fuel ∧ c.most = c.most ∧ c.init = c.init ∧ c.locks = c.locks ∧ c.conds = c.conds
 ∧ c.progs = c.progs ∧ (at2 p i).op = (at2 p i).op ∧ (at2 p i).a = (at2 p i).a ∧ (at2 p i).b = (at2 p i).b ∧ (at2 p i).c = (at2 p i).c ∧ (at2 p i).n = (at2 p i).n ∧ true = writesR p (List.take s w.o) ∧ mineR c.conds p
 (at2 p i).a (List.take k w.o) = mineR c.conds p (at2 p i).a (List.take s w.o) ∧ ((↑w.o.length : Int) == 1) = ((↑w.o.length : Int) == 1) ∧ IntKind.i64.wrap ((↑k : Int) + 1) = (↑s : Int) ∧ s ≤ w.o.length ∧ w.o.length - s <
 w.o.length - k ∧ True)) ∧ (decide ((at2 p i).a ≥ (0 : Int)) = false → ∃ (s : Nat), w.o = w.o ∧ w.last = w.last ∧ w.loops = w.loops ∧ p = p ∧ i = i ∧ c.engine = c.engine ∧ c.clock = c.clock ∧ c.stripes = c.stripes ∧
 c.reads = c.reads ∧ c.writes = c.writes ∧ c.retry = c.retry ∧ c.fuel = c.fuel ∧ c.most = c.most ∧ c.init = c.init ∧ c.locks = c.locks ∧ c.conds = c.conds ∧ c.progs = c.progs ∧ (at2 p i).op = (at2 p i).op ∧ (at2 p i).a =
 (at2 p i).a ∧ (at2 p i).b = (at2 p i).b ∧ (at2 p i).c = (at2 p i).c ∧ (at2 p i).n = (at2 p i).n ∧ true = writesR p (List.take s w.o) ∧ mineR c.conds p (at2 p i).a (List.take k w.o) = mineR c.conds p (at2 p i).a
 (List.take s w.o) ∧ ((↑w.o.length : Int) == 1) = ((↑w.o.length : Int) == 1) ∧ IntKind.i64.wrap ((↑k : Int) + 1) = (↑s : Int) ∧ s ≤ w.o.length ∧ w.o.length - s < w.o.length - k ∧ True)) ∧ (writesR p (List.take k w.o) =
 false → (decide ((at2 p i).a ≥ (0 : Int)) = true → (decide ((at2 p i).a < (↑c.conds.length : Int)) = true → ((0 : Int) ≤ (at2 p i).a ∧ (at2 p i).a < (↑c.conds.length : Int)) ∧ (((at2 p (at0 w.o (↑k : Int))).a == at0
 c.conds (at2 p i).a) = true → ∃ (s : Nat), w.o = w.o ∧ w.last = w.last ∧ w.loops = w.loops ∧ p = p ∧ i = i ∧ c.engine = c.engine ∧ c.clock = c.clock ∧ c.stripes = c.stripes ∧ c.reads = c.reads ∧ c.writes = c.writes ∧
 c.retry = c.retry ∧ c.fuel = c.fuel ∧ c.most = c.most ∧ c.init = c.init ∧ c.locks = c.locks ∧ c.conds = c.conds ∧ c.progs = c.progs ∧ (at2 p i).op = (at2 p i).op ∧ (at2 p i).a = (at2 p i).a ∧ (at2 p i).b = (at2 p i).b ∧
 (at2 p i).c = (at2 p i).c ∧ (at2 p i).n = (at2 p i).n ∧ ((at2 p (at0 w.o (↑k : Int))).b == 0) = writesR p (List.take s w.o) ∧ (at2 p (at0 w.o (↑k : Int))).b = mineR c.conds p (at2 p i).a (List.take s w.o) ∧ ((↑w.o.length
 : Int) == 1) = ((↑w.o.length : Int) == 1) ∧ IntKind.i64.wrap ((↑k : Int) + 1) = (↑s : Int) ∧ s ≤ w.o.length ∧ w.o.length - s < w.o.length - k ∧ True) ∧ (((at2 p (at0 w.o (↑k : Int))).a == at0 c.conds (at2 p i).a) = false
 → ∃ (s : Nat), w.o = w.o ∧ w.last = w.last ∧ w.loops = w.loops ∧ p = p ∧ i = i ∧ c.engine = c.engine ∧ c.clock = c.clock ∧ c.stripes = c.stripes ∧ c.reads = c.reads ∧ c.writes = c.writes ∧ c.retry = c.retry ∧ c.fuel =
 c.fuel ∧ c.most = c.most ∧ c.init = c.init ∧ c.locks = c.locks ∧ c.conds = c.conds ∧ c.progs = c.progs ∧ (at2 p i).op = (at2 p i).op ∧ (at2 p i).a = (at2 p i).a ∧ (at2 p i).b = (at2 p i).b ∧ (at2 p i).c = (at2 p i).c ∧
 (at2 p i).n = (at2 p i).n ∧ ((at2 p (at0 w.o (↑k : Int))).b == 0) = writesR p (List.take s w.o) ∧ mineR c.conds p (at2 p i).a (List.take k w.o) = mineR c.conds p (at2 p i).a (List.take s w.o) ∧ ((↑w.o.length : Int) == 1)
 = ((↑w.o.length : Int) == 1) ∧ IntKind.i64.wrap ((↑k : Int) + 1) = (↑s : Int) ∧ s ≤ w.o.length ∧ w.o.length - s < w.o.length - k ∧ True)) ∧ (decide ((at2 p i).a < (↑c.conds.length : Int)) = false → ∃ (s : Nat), w.o = w.o
 ∧ w.last = w.last ∧ w.loops = w.loops ∧ p = p ∧ i = i ∧ c.engine = c.engine ∧ c.clock = c.clock ∧ c.stripes = c.stripes ∧ c.reads = c.reads ∧ c.writes = c.writes ∧ c.retry = c.retry ∧ c.fuel = c.fuel ∧ c.most = c.most ∧
 c.init = c.init ∧ c.locks = c.locks ∧ c.conds = c.conds ∧ c.progs = c.progs ∧ (at2 p i).op = (at2 p i).op ∧ (at2 p i).a = (at2 p i).a ∧ (at2 p i).b = (at2 p i).b ∧ (at2 p i).c = (at2 p i).c ∧ (at2 p i).n = (at2 p i).n ∧
 ((at2 p (at0 w.o (↑k : Int))).b == 0) = writesR p (List.take s w.o) ∧ mineR c.conds p (at2 p i).a (List.take k w.o) = mineR c.conds p (at2 p i).a (List.take s w.o) ∧ ((↑w.o.length : Int) == 1) = ((↑w.o.length : Int) ==
 1) ∧ IntKind.i64.wrap ((↑k : Int) + 1) = (↑s : Int) ∧ s ≤ w.o.length ∧ w.o.length - s < w.o.length - k ∧ True)) ∧ (decide ((at2 p i).a ≥ (0 : Int)) = false → ∃ (s : Nat), w.o = w.o ∧ w.last = w.last ∧ w.loops = w.loops ∧
 p = p ∧ i = i ∧ c.engine = c.engine ∧ c.clock = c.clock ∧ c.stripes = c.stripes ∧ c.reads = c.reads ∧ c.writes = c.writes ∧ c.retry = c.retry ∧ c.fuel = c.fuel ∧ c.most = c.most ∧ c.init = c.init ∧ c.locks = c.locks ∧
 c.conds = c.conds ∧ c.progs = c.progs ∧ (at2 p i).op = (at2 p i).op ∧ (at2 p i).a = (at2 p i).a ∧ (at2 p i).b = (at2 p i).b ∧ (at2 p i).c = (at2 p i).c ∧ (at2 p i).n = (at2 p i).n ∧ ((at2 p (at0 w.o (↑k : Int))).b == 0)
 = writesR p (List.take s w.o) ∧ mineR c.conds p (at2 p i).a (List.take k w.o) = mineR c.conds p (at2 p i).a (List.take s w.o) ∧ ((↑w.o.length : Int) == 1) = ((↑w.o.length : Int) == 1) ∧ IntKind.i64.wrap ((↑k : Int) + 1)
 = (↑s : Int) ∧ s ≤ w.o.length ∧ w.o.length - s < w.o.length - k ∧ True))) ∧ (decide ((↑k : Int) < (↑w.o.length : Int)) = false → (((at2 p i).op == 9) = true → (decide ((↑w.o.length : Int) > 0) = true → ((!writesR p
 (List.take k w.o)) = true → (7 : Int) = restR c.conds p w.o (at2 p i) ∧ True) ∧ ((!writesR p (List.take k w.o)) = false → (0 : Int) = restR c.conds p w.o (at2 p i) ∧ True)) ∧ (decide ((↑w.o.length : Int) > 0) = false →
 (0 : Int) = restR c.conds p w.o (at2 p i) ∧ True)) ∧ (((at2 p i).op == 9) = false → (((at2 p i).op == 10) = true → ((!writesR p (List.take k w.o)) = true → (7 : Int) = restR c.conds p w.o (at2 p i) ∧ True) ∧ ((!writesR p
 (List.take k w.o)) = false → (0 : Int) = restR c.conds p w.o (at2 p i) ∧ True)) ∧ (((at2 p i).op == 10) = false → (((at2 p i).op == 11) = true → ((!writesR p (List.take k w.o)) = true → (7 : Int) = restR c.conds p w.o
 (at2 p i) ∧ True) ∧ ((!writesR p (List.take k w.o)) = false → (0 : Int) = restR c.conds p w.o (at2 p i) ∧ True)) ∧ (((at2 p i).op == 11) = false → (((at2 p i).op == 15) = true → (decide ((at2 p i).a ≥ (↑c.conds.length :
 Int)) = true → (9 : Int) = restR c.conds p w.o (at2 p i) ∧ True) ∧ (decide ((at2 p i).a ≥ (↑c.conds.length : Int)) = false → (decide (mineR c.conds p (at2 p i).a (List.take k w.o) < 0) = true → (6 : Int) = restR c.conds
 p w.o (at2 p i) ∧ True) ∧ (decide (mineR c.conds p (at2 p i).a (List.take k w.o) < 0) = false → (((at2 p i).op == 15) = true → ((!(↑w.o.length : Int) == 1) = true → (6 : Int) = restR c.conds p w.o (at2 p i) ∧ True) ∧
 ((!(↑w.o.length : Int) == 1) = false → ((mineR c.conds p (at2 p i).a (List.take k w.o) == 1) = true → (7 : Int) = restR c.conds p w.o (at2 p i) ∧ True) ∧ ((mineR c.conds p (at2 p i).a (List.take k w.o) == 1) = false → (0
 : Int) = restR c.conds p w.o (at2 p i) ∧ True))) ∧ (((at2 p i).op == 15) = false → ((mineR c.conds p (at2 p i).a (List.take k w.o) == 1) = true → (7 : Int) = restR c.conds p w.o (at2 p i) ∧ True) ∧ ((mineR c.conds p (at2
 p i).a (List.take k w.o) == 1) = false → (0 : Int) = restR c.conds p w.o (at2 p i) ∧ True))))) ∧ (((at2 p i).op == 15) = false → (((at2 p i).op == 16) = true → (decide ((at2 p i).a ≥ (↑c.conds.length : Int)) = true → (9
 : Int) = restR c.conds p w.o (at2 p i) ∧ True) ∧ (decide ((at2 p i).a ≥ (↑c.conds.length : Int)) = false → (decide (mineR c.conds p (at2 p i).a (List.take k w.o) < 0) = true → (6 : Int) = restR c.conds p w.o (at2 p i) ∧
 True) ∧ (decide (mineR c.conds p (at2 p i).a (List.take k w.o) < 0) = false → (((at2 p i).op == 15) = true → ((!(↑w.o.length : Int) == 1) = true → (6 : Int) = restR c.conds p w.o (at2 p i) ∧ True) ∧ ((!(↑w.o.length :
 Int) == 1) = false → ((mineR c.conds p (at2 p i).a (List.take k w.o) == 1) = true → (7 : Int) = restR c.conds p w.o (at2 p i) ∧ True) ∧ ((mineR c.conds p (at2 p i).a (List.take k w.o) == 1) = false → (0 : Int) = restR
 c.conds p w.o (at2 p i) ∧ True))) ∧ (((at2 p i).op == 15) = false → ((mineR c.conds p (at2 p i).a (List.take k w.o) == 1) = true → (7 : Int) = restR c.conds p w.o (at2 p i) ∧ True) ∧ ((mineR c.conds p (at2 p i).a
 (List.take k w.o) == 1) = false → (0 : Int) = restR c.conds p w.o (at2 p i) ∧ True))))) ∧ (((at2 p i).op == 16) = false → (((at2 p i).op == 17) = true → (decide ((at2 p i).a ≥ (↑c.conds.length : Int)) = true → (9 : Int)
 = restR c.conds p w.o (at2 p i) ∧ True) ∧ (decide ((at2 p i).a ≥ (↑c.conds.length : Int)) = false → (decide (mineR c.conds p (at2 p i).a (List.take k w.o) < 0) = true → (6 : Int) = restR c.conds p w.o (at2 p i) ∧ True) ∧
 (decide (mineR c.conds p (at2 p i).a (List.take k w.o) < 0) = false → (((at2 p i).op == 15) = true → ((!(↑w.o.length : Int) == 1) = true → (6 : Int) = restR c.conds p w.o (at2 p i) ∧ True) ∧ ((!(↑w.o.length : Int) == 1)
 = false → ((mineR c.conds p (at2 p i).a (List.take k w.o) == 1) = true → (7 : Int) = restR c.conds p w.o (at2 p i) ∧ True) ∧ ((mineR c.conds p (at2 p i).a (List.take k w.o) == 1) = false → (0 : Int) = restR c.conds p w.o
 (at2 p i) ∧ True))) ∧ (((at2 p i).op == 15) = false → ((mineR c.conds p (at2 p i).a (List.take k w.o) == 1) = true → (7 : Int) = restR c.conds p w.o (at2 p i) ∧ True) ∧ ((mineR c.conds p (at2 p i).a (List.take k w.o) ==
 1) = false → (0 : Int) = restR c.conds p w.o (at2 p i) ∧ True))))) ∧ (((at2 p i).op == 17) = false → (0 : Int) = restR c.conds p w.o (at2 p i) ∧ True)))))))) := by kernel_rfl

theorem re_e_ok (w : Rk) (c : Config) (p : List Instr) (i : Int) (h0 : 0 ≤ i) (h1 : i < p.length) : Paid (entryX F (lookC []) 300 Tryd.f61 b61 ⟨[(4, reC w c p i)], .i .i64 (restR c.conds p w.o (at2 p i)), []⟩ [.fp (enc10 w), .agg (enc4 c), .tl (T := T) 2 p, .i .i64 i]) := by
  refine ⟨?_⟩
  rw [re_e]
  exact ⟨⟨h0, h1⟩, 0, rfl, rfl, rfl, rfl, rfl, rfl, rfl, rfl, rfl, rfl, rfl, rfl, rfl, rfl, rfl, rfl, rfl, rfl, rfl, rfl, rfl, rfl, rfl, rfl, rfl, rfl, Nat.zero_le _, trivial⟩
theorem writesR_step (p : List Instr) (o : List Int) {k : Nat} (h : k < o.length) : writesR p (o.take (k + 1)) = (writesR p (o.take k) || ((at2 p (at0 o k)).b == 0)) := by
  have e : at0 o (k : Int) = o[k] := at0_get h
  unfold writesR rW writesB
  rw [List.take_succ_eq_append_getElem h, List.map_append, List.any_append, e]
  simp only [List.map_cons, List.map_nil, List.any_cons, List.any_nil, Bool.or_false]
theorem mineR_step (cs : List Int) (p : List Instr) (a : Int) (o : List Int) {k : Nat} (h : k < o.length) : mineR cs p a (o.take (k + 1)) = if a ≥ 0 ∧ a < cs.length ∧ (at2 p (at0 o k)).a = at0 cs a then (at2 p (at0 o k)).b else mineR cs p a (o.take k) := by
  have e : at0 o (k : Int) = o[k] := at0_get h
  rw [mineR, mineR, List.take_succ_eq_append_getElem h, List.foldl_append, e]
  rfl
section
variable {cs : List Int} {p : List Instr} {o : List Int} {x : Instr}
theorem rest_9 (h : x.op = 9) : restR cs p o x = if (o.length : Int) > 0 ∧ writesR p o = false then 7 else 0 := by rw [restR, if_pos h]
theorem rest_10 (h : x.op = 10 ∨ x.op = 11) : restR cs p o x = if writesR p o = false then 7 else 0 := by rw [restR, if_neg (by omega), if_pos h]
theorem rest_15 (h : x.op = 15 ∨ x.op = 16 ∨ x.op = 17) : restR cs p o x = if x.a ≥ cs.length then 9 else if mineR cs p x.a o < 0 ∨ (x.op = 15 ∧ ¬ (o.length : Int) = 1) then 6 else if mineR cs p x.a o = 1 then 7 else 0 := by rw [restR, if_neg (by omega), if_neg (by omega), if_pos h]
theorem rest_0 (h : x.op ≠ 9) (h1 : x.op ≠ 10) (h2 : x.op ≠ 11) (h3 : x.op ≠ 15) (h4 : x.op ≠ 16) (h5 : x.op ≠ 17) : restR cs p o x = 0 := by rw [restR, if_neg h, if_neg (by omega), if_neg (by omega)]
theorem re_W (h : x.op = 15 ∨ x.op = 16 ∨ x.op = 17) : (decide (x.a ≥ (cs.length : Int)) = true → 9 = restR cs p o x ∧ True) ∧ (decide (x.a ≥ (cs.length : Int)) = false → (decide (mineR cs p x.a o < 0) = true → 6 = restR cs p o x ∧ True) ∧ (decide (mineR cs p x.a o < 0) = false →
    ((x.op == 15) = true → ((!(o.length : Int) == 1) = true → 6 = restR cs p o x ∧ True) ∧ ((!(o.length : Int) == 1) = false → ((mineR cs p x.a o == 1) = true → 7 = restR cs p o x ∧ True) ∧ ((mineR cs p x.a o == 1) = false → 0 = restR cs p o x ∧ True))) ∧
    ((x.op == 15) = false → ((mineR cs p x.a o == 1) = true → 7 = restR cs p o x ∧ True) ∧ ((mineR cs p x.a o == 1) = false → 0 = restR cs p o x ∧ True)))) := by
  rw [rest_15 h]
  refine ⟨fun a => ⟨by rw [if_pos (of_decide_eq_true a)], trivial⟩, fun a => ⟨fun b => ⟨by rw [if_neg (of_decide_eq_false a), if_pos (.inl (of_decide_eq_true b))], trivial⟩, fun b => ⟨fun e => ⟨fun l => ⟨?_, trivial⟩, fun l => ⟨fun q => ⟨?_, trivial⟩, fun q => ⟨?_, trivial⟩⟩⟩, fun e => ⟨fun q => ⟨?_, trivial⟩, fun q => ⟨?_, trivial⟩⟩⟩⟩⟩
  all_goals have a := of_decide_eq_false a
  all_goals have b := of_decide_eq_false b
  · have e : x.op = 15 := eq_of_beq e
    have l : ¬ (o.length : Int) = 1 := by simpa using l
    rw [if_neg a, if_pos (.inr ⟨e, l⟩)]
  · have l : (o.length : Int) = 1 := by simpa using l
    rw [if_neg a, if_neg (by rintro (y | y); exact b y; exact y.2 l), if_pos (eq_of_beq q)]
  · have l : (o.length : Int) = 1 := by simpa using l
    rw [if_neg a, if_neg (by rintro (y | y); exact b y; exact y.2 l), if_neg (ne_of_beq_false q)]
  · have e : ¬ x.op = 15 := ne_of_beq_false e
    rw [if_neg a, if_neg (by rintro (y | y); exact b y; exact e y.1), if_pos (eq_of_beq q)]
  · have e : ¬ x.op = 15 := ne_of_beq_false e
    rw [if_neg a, if_neg (by rintro (y | y); exact b y; exact e y.1), if_neg (ne_of_beq_false q)]
end
theorem re_4_ok (w : Rk) (c : Config) (p : List Instr) (i : Int) (k : Nat) (hl : w.o.length ≤ 1000) (ho : ∀ k ∈ w.o, 0 ≤ k ∧ k < p.length) (hk : k ≤ w.o.length) : Paid (cutVC F (lookC []) 300 Tryd.f61 b61 ⟨[(4, reC w c p i)], .i .i64 (restR c.conds p w.o (at2 p i)), []⟩ 4 (reC w c p i) k) := by
  refine ⟨?_⟩
  rw [re_4]
  generalize at2 p i = x
  refine ⟨fun h => ?_, fun h => ?_⟩
  · have h : k < w.o.length := by have := of_decide_eq_true h; omega
    have e : at0 w.o (k : Int) = w.o[k] := at0_get h
    have r1 : (0 : Int) ≤ (k : Int) ∧ (k : Int) < (w.o.length : Int) := ⟨by omega, by omega⟩
    have r2 := ho _ (List.getElem_mem h)
    rw [← e] at r2
    have hw : IntKind.i64.wrap ((k : Int) + 1) = ((k + 1 : Nat) : Int) := succ64 (by omega)
    have hmeas : w.o.length - (k + 1) < w.o.length - k := by omega
    rw [hw]
    have ws := writesR_step p w.o h
    have ms := mineR_step c.conds p x.a w.o h
    have go : ∀ (u : Bool) (v : Int), u = writesR p (w.o.take (k + 1)) → v = mineR c.conds p x.a (w.o.take (k + 1)) → ∃ (s : Nat), w.o = w.o ∧ w.last = w.last ∧ w.loops = w.loops ∧ p = p ∧ i = i ∧ c.engine = c.engine ∧ c.clock = c.clock ∧ c.stripes = c.stripes ∧ c.reads = c.reads ∧ c.writes = c.writes ∧ c.retry = c.retry ∧ c.fuel = c.fuel ∧ c.most = c.most ∧ c.init = c.init ∧ c.locks = c.locks ∧ c.conds = c.conds ∧ c.progs = c.progs ∧
        x.op = x.op ∧ x.a = x.a ∧ x.b = x.b ∧ x.c = x.c ∧ x.n = x.n ∧ u = writesR p (List.take s w.o) ∧ v = mineR c.conds p x.a (List.take s w.o) ∧ ((w.o.length : Int) == 1) = ((w.o.length : Int) == 1) ∧ ((k + 1 : Nat) : Int) = (s : Int) ∧ s ≤ w.o.length ∧ w.o.length - s < w.o.length - k ∧ True := fun u v hu hv =>
      ⟨k + 1, rfl, rfl, rfl, rfl, rfl, rfl, rfl, rfl, rfl, rfl, rfl, rfl, rfl, rfl, rfl, rfl, rfl, rfl, rfl, rfl, rfl, rfl, hu, hv, rfl, rfl, h, hmeas, trivial⟩
    have inner : ∀ u : Bool, u = writesR p (w.o.take (k + 1)) → _ := fun u hu => (⟨fun a => ⟨fun b => ⟨⟨of_decide_eq_true a, of_decide_eq_true b⟩, fun q => go u _ hu (by rw [ms, if_pos ⟨of_decide_eq_true a, of_decide_eq_true b, eq_of_beq q⟩]), fun q => go u _ hu (by rw [ms, if_neg (fun y => ne_of_beq_false q y.2.2)])⟩, fun b => go u _ hu (by rw [ms, if_neg (fun y => of_decide_eq_false b y.2.1)])⟩, fun a => go u _ hu (by rw [ms, if_neg (fun y => of_decide_eq_false a y.1)])⟩ :
      (decide (x.a ≥ 0) = true → (decide (x.a < (c.conds.length : Int)) = true → ((0 : Int) ≤ x.a ∧ x.a < (c.conds.length : Int)) ∧ (((at2 p (at0 w.o (k : Int))).a == at0 c.conds x.a) = true → _) ∧ (((at2 p (at0 w.o (k : Int))).a == at0 c.conds x.a) = false → _)) ∧ (decide (x.a < (c.conds.length : Int)) = false → _)) ∧ (decide (x.a ≥ 0) = false → _))
    exact ⟨r1, r2, fun q => inner true (by rw [ws, q]; rfl), fun q => inner _ (by rw [ws, q]; rfl)⟩
  · have h : k = w.o.length := by have := of_decide_eq_false h; omega
    rw [h, List.take_length]
    have nb : ∀ {b : Bool}, (!b) = true → b = false := fun {b} h => by cases b <;> simp at h ⊢
    have yb : ∀ {b : Bool}, (!b) = false → ¬ b = false := fun {b} h => by cases b <;> simp at h ⊢
    refine ⟨fun h9 => ⟨fun hl => ⟨fun hw => ⟨?_, trivial⟩, fun hw => ⟨?_, trivial⟩⟩, fun hl => ⟨?_, trivial⟩⟩, fun h9 => ⟨fun h10 => ⟨fun hw => ⟨?_, trivial⟩, fun hw => ⟨?_, trivial⟩⟩, fun h10 => ⟨fun h11 => ⟨fun hw => ⟨?_, trivial⟩, fun hw => ⟨?_, trivial⟩⟩, fun h11 => ⟨fun h15 => re_W (.inl (eq_of_beq h15)), fun h15 => ⟨fun h16 => re_W (.inr (.inl (eq_of_beq h16))), fun h16 => ⟨fun h17 => re_W (.inr (.inr (eq_of_beq h17))), fun h17 => ⟨?_, trivial⟩⟩⟩⟩⟩⟩⟩
    · rw [rest_9 (eq_of_beq h9), if_pos ⟨of_decide_eq_true hl, nb hw⟩]
    · rw [rest_9 (eq_of_beq h9), if_neg (fun y => yb hw y.2)]
    · rw [rest_9 (eq_of_beq h9), if_neg (fun y => of_decide_eq_false hl y.1)]
    · rw [rest_10 (.inl (eq_of_beq h10)), if_pos (nb hw)]
    · rw [rest_10 (.inl (eq_of_beq h10)), if_neg (yb hw)]
    · rw [rest_10 (.inr (eq_of_beq h11)), if_pos (nb hw)]
    · rw [rest_10 (.inr (eq_of_beq h11)), if_neg (yb hw)]
    · exact (rest_0 (ne_of_beq_false h9) (ne_of_beq_false h10) (ne_of_beq_false h11) (ne_of_beq_false h15) (ne_of_beq_false h16) (ne_of_beq_false h17)).symm
theorem reOk : CtrOk1 F.S 61 (mkCtr reD) :=
  mkCtr_paid (fn := Tryd.f61) (body := b61) (ctr := lookC []) codOk noExt hookLow noneOk Tryd.func61 rfl rfl rfl reD 300 (fun (x : Rk × Config × List Instr × Int × Unit) => [(4, reC x.1 x.2.1 x.2.2.1 x.2.2.2.1)]) (show 4 ≤ Tryd.f61.ntmps by decide) (show Tryd.f61.ntmps ≤ 512 by decide) (by kernel_rfl) (fun _ _ => ⟨rfl, rfl⟩)
    (fun (x : Rk × Config × List Instr × Int × Unit) hp => re_e_ok x.1 x.2.1 x.2.2.1 x.2.2.2.1 hp.2.2.1 hp.2.2.2) (fun (x : Rk × Config × List Instr × Int × Unit) hp p hm s hI => by
      rw [List.mem_singleton] at hm
      subst hm
      exact re_4_ok x.1 x.2.1 x.2.2.1 x.2.2.2.1 s hp.1 hp.2.1 hI)
end Go.Proofs.YtjboohjicdmidaaDoor

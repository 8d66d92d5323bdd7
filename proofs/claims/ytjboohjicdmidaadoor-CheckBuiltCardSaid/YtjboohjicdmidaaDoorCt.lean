/- check.Config, the document's Config, asks: their contracts are paid. -/
import Derived.Test.YtjboohjicdmidaaDoorCs
namespace Go.Proofs.YtjboohjicdmidaaDoor
open Go.RowKit Go.Am Go.Sy
set_option linter.unusedVariables false
set_option linter.unusedSimpArgs false

theorem wi_e (n lo hi : Int) : Go.Sy.Tree.holds (entryX F (lookC []) 200 Tryd.f28 b28 ⟨[], .b (wi n lo hi), []⟩ [.i .i64 n, .i .i64 lo, .i .i64 hi]) = ( (decide (n ≥ lo) = true → decide (n ≤ hi) = wi n lo hi ∧ True) ∧
 (decide (n ≥ lo) = false → false = wi n lo hi ∧ True)) := by kernel_rfl
theorem pl_e (c : Config) : Go.Sy.Tree.holds (entryX F (lookC k1) 200 Tryd.f24 b24 ⟨[], .b (plainB c), []⟩ [.agg (enc4 c)]) = ( wiD.pre (c.engine, (1 : Int), (2 : Int), ()) ∧ (wi c.engine (1 : Int) (2 : Int) = true →
 wiD.pre (c.clock, (1 : Int), (2 : Int), ()) ∧ (wi c.clock (1 : Int) (2 : Int) = true → wiD.pre (c.stripes, (1 : Int), (16 : Int), ()) ∧ (wi c.stripes (1 : Int) (16 : Int) = true → wiD.pre (c.reads, (1 : Int), (32 : Int),
 ()) ∧ (wi c.reads (1 : Int) (32 : Int) = true → wiD.pre (c.writes, (1 : Int), (32 : Int), ()) ∧ (wi c.writes (1 : Int) (32 : Int) = true → wiD.pre (c.retry, (0 : Int), (8 : Int), ()) ∧ (wi c.retry (0 : Int) (8 : Int) =
 true → wiD.pre (c.fuel, (0 : Int), (400 : Int), ()) ∧ (wi c.fuel (0 : Int) (400 : Int) = true → (decide (c.most ≥ (0 : Int)) = true → (decide (c.most ≤ 1099511627776) = true → (decide ((↑c.init.length : Int) ≤ 32) = true
 → (decide ((↑c.locks.length : Int) ≤ 4) = true → (decide ((↑c.conds.length : Int) ≤ 4) = true → wiD.pre ((↑c.progs.length : Int), (1 : Int), (4 : Int), ()) ∧ wi (↑c.progs.length : Int) (1 : Int) (4 : Int) = plainB c ∧
 True) ∧ (decide ((↑c.conds.length : Int) ≤ 4) = false → false = plainB c ∧ True)) ∧ (decide ((↑c.locks.length : Int) ≤ 4) = false → false = plainB c ∧ True)) ∧ (decide ((↑c.init.length : Int) ≤ 32) = false → false =
 plainB c ∧ True)) ∧ (decide (c.most ≤ 1099511627776) = false → false = plainB c ∧ True)) ∧ (decide (c.most ≥ (0 : Int)) = false → false = plainB c ∧ True)) ∧ (wi c.fuel (0 : Int) (400 : Int) = false → false = plainB c ∧
 True)) ∧ (wi c.retry (0 : Int) (8 : Int) = false → false = plainB c ∧ True)) ∧ (wi c.writes (1 : Int) (32 : Int) = false → false = plainB c ∧ True)) ∧ (wi c.reads (1 : Int) (32 : Int) = false → false = plainB c ∧ True))
 ∧ (wi c.stripes (1 : Int) (16 : Int) = false → false = plainB c ∧ True)) ∧ (wi c.clock (1 : Int) (2 : Int) = false → false = plainB c ∧ True)) ∧ (wi c.engine (1 : Int) (2 : Int) = false → false = plainB c ∧ True)) := by
 kernel_rfl
theorem lm_e (c : Config) (l : Int) (m : Nat) : Go.Sy.Tree.holds (entryX F (lookC k1) 200 Tryd.f27 b27 (lmF c m) [.agg (enc4 c), .i .i64 l]) = ( ((0 : Int) ≤ l ∧ l < (↑c.locks.length : Int)) ∧ wiD.pre ((at1 c.locks
 l).kind, (1 : Int), (3 : Int), ()) ∧ ((!wi (at1 c.locks l).kind (1 : Int) (3 : Int)) = true → false = lockOk c m ∧ True) ∧ ((!wi (at1 c.locks l).kind (1 : Int) (3 : Int)) = false → (decide ((at1 c.locks l).len < 0) =
 true → false = lockOk c m ∧ True) ∧ (decide ((at1 c.locks l).len < 0) = false → wiD.pre ((at1 c.locks l).fr, (0 : Int), (↑c.init.length : Int), ()) ∧ ((!wi (at1 c.locks l).fr (0 : Int) (↑c.init.length : Int)) = true →
 false = lockOk c m ∧ True) ∧ ((!wi (at1 c.locks l).fr (0 : Int) (↑c.init.length : Int)) = false → (decide ((at1 c.locks l).len > IntKind.i64.wrap ((↑c.init.length : Int) - (at1 c.locks l).fr)) = true → false = lockOk c m
 ∧ True) ∧ (decide ((at1 c.locks l).len > IntKind.i64.wrap ((↑c.init.length : Int) - (at1 c.locks l).fr)) = false → ((0 : Int) ≤ 0 ∧ (0 : Int) ≤ l ∧ l ≤ (↑c.locks.length : Int)) ∧ ∃ (s : Nat), (at1 c.locks l).kind = (at1
 c.locks (↑m : Int)).kind ∧ (at1 c.locks l).fr = (at1 c.locks (↑m : Int)).fr ∧ (at1 c.locks l).len = (at1 c.locks (↑m : Int)).len ∧ List.take (l.toNat - 0) (List.drop (0 : Nat) c.locks) = List.take m c.locks ∧
 (↑(List.take (l.toNat - 0) (List.drop (0 : Nat) c.locks)).length : Int) = (↑m : Int) ∧ (0 : Int) = (↑s : Int) ∧ (small c ∧ s ≤ m ∧ m < c.locks.length ∧ ownOk (↑c.init.length : Int) (at1 c.locks (↑m : Int)) = true ∧ ∀ (y
 : Lock), y ∈ List.take s (List.take m c.locks) → clash (at1 c.locks (↑m : Int)) y = false) ∧ True))))) := by kernel_rfl
theorem lm_5 (c : Config) (l k : Nat) : Go.Sy.Tree.holds (cutVC F (lookC k1) 200 Tryd.f27 b27 (lmF c l) 5 (lmC c l) k) = ( (decide ((↑k : Int) < (↑l : Int)) = true → ((0 : Int) ≤ (↑k : Int) ∧ (↑k : Int) < (↑(List.take l
 c.locks).length : Int)) ∧ (decide ((at1 c.locks (↑l : Int)).len > 0) = true → (decide ((at1 (List.take l c.locks) (↑k : Int)).len > 0) = true → (decide ((at1 c.locks (↑l : Int)).fr < IntKind.i64.wrap ((at1 (List.take l
 c.locks) (↑k : Int)).fr + (at1 (List.take l c.locks) (↑k : Int)).len)) = true → (decide ((at1 (List.take l c.locks) (↑k : Int)).fr < IntKind.i64.wrap ((at1 c.locks (↑l : Int)).fr + (at1 c.locks (↑l : Int)).len)) = true →
 false = lockOk c l ∧ True) ∧ (decide ((at1 (List.take l c.locks) (↑k : Int)).fr < IntKind.i64.wrap ((at1 c.locks (↑l : Int)).fr + (at1 c.locks (↑l : Int)).len)) = false → ∃ (s : Nat), (at1 c.locks (↑l : Int)).kind = (at1
 c.locks (↑l : Int)).kind ∧ (at1 c.locks (↑l : Int)).fr = (at1 c.locks (↑l : Int)).fr ∧ (at1 c.locks (↑l : Int)).len = (at1 c.locks (↑l : Int)).len ∧ List.take l c.locks = List.take l c.locks ∧ (↑l : Int) = (↑l : Int) ∧
 IntKind.i64.wrap ((↑k : Int) + 1) = (↑s : Int) ∧ (small c ∧ s ≤ l ∧ l < c.locks.length ∧ ownOk (↑c.init.length : Int) (at1 c.locks (↑l : Int)) = true ∧ ∀ (y : Lock), y ∈ List.take s (List.take l c.locks) → clash (at1
 c.locks (↑l : Int)) y = false) ∧ l - s < l - k ∧ True)) ∧ (decide ((at1 c.locks (↑l : Int)).fr < IntKind.i64.wrap ((at1 (List.take l c.locks) (↑k : Int)).fr + (at1 (List.take l c.locks) (↑k : Int)).len)) = false → ∃ (s :
 Nat), (at1 c.locks (↑l : Int)).kind = (at1 c.locks (↑l : Int)).kind ∧ (at1 c.locks (↑l : Int)).fr = (at1 c.locks (↑l : Int)).fr ∧ (at1 c.locks (↑l : Int)).len = (at1 c.locks (↑l : Int)).len ∧ List.take l c.locks =
 List.take l c.locks ∧ (↑l : Int) = (↑l : Int) ∧ IntKind.i64.wrap ((↑k : Int) + 1) = (↑s : Int) ∧ (small c ∧ s ≤ l ∧ l < c.locks.length ∧ ownOk (↑c.init.length : Int) (at1 c.locks (↑l : Int)) = true ∧ ∀ (y : Lock), y ∈
 List.take s (List.take l c.locks) → clash (at1 c.locks (↑l : Int)) y = false) ∧ l - s < l - k ∧ True)) ∧ (decide ((at1 (List.take l c.locks) (↑k : Int)).len > 0) = false → ∃ (s : Nat), (at1 c.locks (↑l : Int)).kind =
 (at1 c.locks (↑l : Int)).kind ∧ (at1 c.locks (↑l : Int)).fr = (at1 c.locks (↑l : Int)).fr ∧ (at1 c.locks (↑l : Int)).len = (at1 c.locks (↑l : Int)).len ∧ List.take l c.locks = List.take l c.locks ∧ (↑l : Int) = (↑l :
 Int) ∧ IntKind.i64.wrap ((↑k : Int) + 1) = (↑s : Int) ∧ (small c ∧ s ≤ l ∧ l < c.locks.length ∧ ownOk (↑c.init.length : Int) (at1 c.locks (↑l : Int)) = true ∧ ∀ (y : Lock), y ∈ List.take s (List.take l c.locks) → clash
 (at1 c.locks (↑l : Int)) y = false) ∧ l - s < l - k ∧ True)) ∧ (decide ((at1 c.locks (↑l : Int)).len > 0) = false → ∃ (s : Nat), (at1 c.locks (↑l : Int)).kind = (at1 c.locks (↑l : Int)).kind ∧ (at1 c.locks (↑l : Int)).fr
 = (at1 c.locks (↑l : Int)).fr ∧ (at1 c.locks (↑l : Int)).len = (at1 c.locks (↑l : Int)).len ∧ List.take l c.locks = List.take l c.locks ∧ (↑l : Int) = (↑l : Int) ∧ IntKind.i64.wrap ((↑k : Int) + 1) = (↑s : Int) ∧ (small
 c ∧ s ≤ l ∧ l < c.locks.length ∧ ownOk (↑c.init.length : Int) (at1 c.locks (↑l : Int)) = true ∧ ∀ (y : Lock), y ∈ List.take s (List.take l c.locks) → clash (at1 c.locks (↑l : Int)) y = false) ∧ l - s < l - k ∧ True)) ∧
 (decide ((↑k : Int) < (↑l : Int)) = false → true = lockOk c l ∧ True)) := by kernel_rfl
theorem cf_e (Q : Config → Prop) (pw : Config → Nat → W3) (c : Config) : Go.Sy.Tree.holds (entryX F (lookC (k2 Q pw)) 200 Tryd.f12 b12 (cfF pw c) [.agg (enc4 c)]) = ( plD.pre (Config.mk c.engine c.clock c.stripes c.reads
 c.writes c.retry c.fuel c.most c.init c.locks c.conds c.progs, ()) ∧ ((!plainB (Config.mk c.engine c.clock c.stripes c.reads c.writes c.retry c.fuel c.most c.init c.locks c.conds c.progs)) = true → newD.pre ((1 : Int),
 ()) ∧ ∃ (y : Int × List P), newV (1 : Int) = ch y.fst y.snd ∧ putC.pre (y, (-1 : Int), (-1 : Int), ()) ∧ putZ (y, (-1 : Int), (-1 : Int), ()) = errV (cfgW pw c) ∧ True) ∧ ((!plainB (Config.mk c.engine c.clock c.stripes
 c.reads c.writes c.retry c.fuel c.most c.init c.locks c.conds c.progs)) = false → ∃ (s : Nat), c.engine = c.engine ∧ c.clock = c.clock ∧ c.stripes = c.stripes ∧ c.reads = c.reads ∧ c.writes = c.writes ∧ c.retry = c.retry
 ∧ c.fuel = c.fuel ∧ c.most = c.most ∧ c.init = c.init ∧ c.locks = c.locks ∧ c.conds = c.conds ∧ c.progs = c.progs ∧ (↑c.locks.length : Int) = (↑c.locks.length : Int) ∧ (0 : Int) = (↑s : Int) ∧ (s ≤ c.locks.length ∧
 plainB c = true ∧ ∀ (k : Nat), k < s → (lockF c k).fst = 0) ∧ True)) := by kernel_rfl
theorem cf_4 (Q : Config → Prop) (pw : Config → Nat → W3) (c : Config) (i : Nat) : Go.Sy.Tree.holds (cutVC F (lookC (k2 Q pw)) 200 Tryd.f12 b12 (cfF pw c) 4 (cfC4 c) i) = ( (decide ((↑i : Int) < (↑c.locks.length : Int)) =
 true → lmD.pre (Config.mk c.engine c.clock c.stripes c.reads c.writes c.retry c.fuel c.most c.init c.locks c.conds c.progs, (↑i : Int), ()) ∧ ((!lockOk (Config.mk c.engine c.clock c.stripes c.reads c.writes c.retry
 c.fuel c.most c.init c.locks c.conds c.progs) (↑i : Int).toNat) = true → newD.pre ((6 : Int), ()) ∧ ∃ (y : Int × List P), newV (6 : Int) = ch y.fst y.snd ∧ putC.pre (y, (-1 : Int), (↑i : Int), ()) ∧ putZ (y, (-1 : Int),
 (↑i : Int), ()) = errV (cfgW pw c) ∧ True) ∧ ((!lockOk (Config.mk c.engine c.clock c.stripes c.reads c.writes c.retry c.fuel c.most c.init c.locks c.conds c.progs) (↑i : Int).toNat) = false → ∃ (s : Nat), c.engine =
 c.engine ∧ c.clock = c.clock ∧ c.stripes = c.stripes ∧ c.reads = c.reads ∧ c.writes = c.writes ∧ c.retry = c.retry ∧ c.fuel = c.fuel ∧ c.most = c.most ∧ c.init = c.init ∧ c.locks = c.locks ∧ c.conds = c.conds ∧ c.progs =
 c.progs ∧ (↑c.locks.length : Int) = (↑c.locks.length : Int) ∧ IntKind.i64.wrap ((↑i : Int) + 1) = (↑s : Int) ∧ (s ≤ c.locks.length ∧ plainB c = true ∧ ∀ (k : Nat), k < s → (lockF c k).fst = 0) ∧ (4000 : Nat) - s < 4000 -
 i ∧ True)) ∧ (decide ((↑i : Int) < (↑c.locks.length : Int)) = false → ∃ (s : Nat), c.engine = c.engine ∧ c.clock = c.clock ∧ c.stripes = c.stripes ∧ c.reads = c.reads ∧ c.writes = c.writes ∧ c.retry = c.retry ∧ c.fuel =
 c.fuel ∧ c.most = c.most ∧ c.init = c.init ∧ c.locks = c.locks ∧ c.conds = c.conds ∧ c.progs = c.progs ∧ c.conds = c.conds ∧ (↑c.conds.length : Int) = (↑c.conds.length : Int) ∧ (0 : Int) = (↑s : Int) ∧ (s ≤
 c.conds.length ∧ plainB c = true ∧ (scan (lockF c) c.locks.length).fst = 0 ∧ ∀ (k : Nat), k < s → (condF c k).fst = 0) ∧ (2500 : Nat) - s < 4000 - i ∧ True)) := by kernel_rfl
theorem cf_10 (Q : Config → Prop) (pw : Config → Nat → W3) (c : Config) (i : Nat) : Go.Sy.Tree.holds (cutVC F (lookC (k2 Q pw)) 200 Tryd.f12 b12 (cfF pw c) 10 (cfC10 c) i) = ( (decide ((↑i : Int) < (↑c.conds.length :
 Int)) = true → ((0 : Int) ≤ (↑i : Int) ∧ (↑i : Int) < (↑c.conds.length : Int)) ∧ wiD.pre (at0 c.conds (↑i : Int), (0 : Int), IntKind.i64.wrap ((↑c.locks.length : Int) - 1), ()) ∧ ((!wi (at0 c.conds (↑i : Int)) (0 : Int)
 (IntKind.i64.wrap ((↑c.locks.length : Int) - 1))) = true → newD.pre ((9 : Int), ()) ∧ ∃ (y : Int × List P), newV (9 : Int) = ch y.fst y.snd ∧ putC.pre (y, (-1 : Int), (↑i : Int), ()) ∧ putZ (y, (-1 : Int), (↑i : Int),
 ()) = errV (cfgW pw c) ∧ True) ∧ ((!wi (at0 c.conds (↑i : Int)) (0 : Int) (IntKind.i64.wrap ((↑c.locks.length : Int) - 1))) = false → ((0 : Int) ≤ at0 c.conds (↑i : Int) ∧ at0 c.conds (↑i : Int) < (↑c.locks.length :
 Int)) ∧ (((at1 c.locks (at0 c.conds (↑i : Int))).len == 0) = true → newD.pre ((6 : Int), ()) ∧ ∃ (y : Int × List P), newV (6 : Int) = ch y.fst y.snd ∧ putC.pre (y, (-1 : Int), (↑i : Int), ()) ∧ putZ (y, (-1 : Int), (↑i :
 Int), ()) = errV (cfgW pw c) ∧ True) ∧ (((at1 c.locks (at0 c.conds (↑i : Int))).len == 0) = false → ∃ (s : Nat), c.engine = c.engine ∧ c.clock = c.clock ∧ c.stripes = c.stripes ∧ c.reads = c.reads ∧ c.writes = c.writes ∧
 c.retry = c.retry ∧ c.fuel = c.fuel ∧ c.most = c.most ∧ c.init = c.init ∧ c.locks = c.locks ∧ c.conds = c.conds ∧ c.progs = c.progs ∧ c.conds = c.conds ∧ (↑c.conds.length : Int) = (↑c.conds.length : Int) ∧
 IntKind.i64.wrap ((↑i : Int) + 1) = (↑s : Int) ∧ (s ≤ c.conds.length ∧ plainB c = true ∧ (scan (lockF c) c.locks.length).fst = 0 ∧ ∀ (k : Nat), k < s → (condF c k).fst = 0) ∧ (2500 : Nat) - s < 2500 - i ∧ True))) ∧
 (decide ((↑i : Int) < (↑c.conds.length : Int)) = false → ∃ (s : Nat), c.engine = c.engine ∧ c.clock = c.clock ∧ c.stripes = c.stripes ∧ c.reads = c.reads ∧ c.writes = c.writes ∧ c.retry = c.retry ∧ c.fuel = c.fuel ∧
 c.most = c.most ∧ c.init = c.init ∧ c.locks = c.locks ∧ c.conds = c.conds ∧ c.progs = c.progs ∧ c.progs = c.progs ∧ (↑c.progs.length : Int) = (↑c.progs.length : Int) ∧ (0 : Int) = (↑s : Int) ∧ (s ≤ c.progs.length ∧
 plainB c = true ∧ (scan (lockF c) c.locks.length).fst = 0 ∧ (scan (condF c) c.conds.length).fst = 0 ∧ ∀ (k : Nat), k < s → (pw c k).fst = 0) ∧ (1000 : Nat) - s < 2500 - i ∧ True)) := by kernel_rfl
theorem cf_18 (Q : Config → Prop) (pw : Config → Nat → W3) (c : Config) (i : Nat) : Go.Sy.Tree.holds (cutVC F (lookC (k2 Q pw)) 200 Tryd.f12 b12 (cfF pw c) 18 (cfC18 pw c) i) = ( (decide ((↑i : Int) < (↑c.progs.length :
 Int)) = true → (progD Q pw).pre (Config.mk c.engine c.clock c.stripes c.reads c.writes c.retry c.fuel c.most c.init c.locks c.conds c.progs, (↑i : Int), ()) ∧ ∃ (w : W3), errV (pw (Config.mk c.engine c.clock c.stripes
 c.reads c.writes c.retry c.fuel c.most c.init c.locks c.conds c.progs) (↑i : Int).toNat) = errV w ∧ ((w.fst == 0) = true → (false = true → AVal.iface (70 : Nat) (constA (Value.pointer none)) = errV (cfgW pw c) ∧ True) ∧
 (false = false → ∃ (s : Nat), c.engine = c.engine ∧ c.clock = c.clock ∧ c.stripes = c.stripes ∧ c.reads = c.reads ∧ c.writes = c.writes ∧ c.retry = c.retry ∧ c.fuel = c.fuel ∧ c.most = c.most ∧ c.init = c.init ∧ c.locks
 = c.locks ∧ c.conds = c.conds ∧ c.progs = c.progs ∧ c.progs = c.progs ∧ (↑c.progs.length : Int) = (↑c.progs.length : Int) ∧ IntKind.i64.wrap ((↑i : Int) + 1) = (↑s : Int) ∧ (s ≤ c.progs.length ∧ plainB c = true ∧ (scan
 (lockF c) c.locks.length).fst = 0 ∧ (scan (condF c) c.conds.length).fst = 0 ∧ ∀ (k : Nat), k < s → (pw c k).fst = 0) ∧ (1000 : Nat) - s < 1000 - i ∧ True)) ∧ ((w.fst == 0) = false → (true = true → AVal.iface (70 : Nat)
 (AVal.ipt [AVal.int IntKind.i64 w.snd.fst, AVal.int IntKind.i64 w.snd.snd, newV w.fst]) = errV (cfgW pw c) ∧ True) ∧ (true = false → ∃ (s : Nat), c.engine = c.engine ∧ c.clock = c.clock ∧ c.stripes = c.stripes ∧ c.reads
 = c.reads ∧ c.writes = c.writes ∧ c.retry = c.retry ∧ c.fuel = c.fuel ∧ c.most = c.most ∧ c.init = c.init ∧ c.locks = c.locks ∧ c.conds = c.conds ∧ c.progs = c.progs ∧ c.progs = c.progs ∧ (↑c.progs.length : Int) =
 (↑c.progs.length : Int) ∧ IntKind.i64.wrap ((↑i : Int) + 1) = (↑s : Int) ∧ (s ≤ c.progs.length ∧ plainB c = true ∧ (scan (lockF c) c.locks.length).fst = 0 ∧ (scan (condF c) c.conds.length).fst = 0 ∧ ∀ (k : Nat), k < s →
 (pw c k).fst = 0) ∧ (1000 : Nat) - s < 1000 - i ∧ True))) ∧ (decide ((↑i : Int) < (↑c.progs.length : Int)) = false → constA Value.nilIface = errV (cfgW pw c) ∧ True)) := by kernel_rfl
theorem rl_e (c : Config) : Go.Sy.Tree.holds (entryX F (lookC []) 200 Tryd.f51 b51 (rlF c) [.agg (enc4 c)]) = ( ∃ (s : Nat), c.engine = c.engine ∧ c.clock = c.clock ∧ c.stripes = c.stripes ∧ c.reads = c.reads ∧ c.writes =
 c.writes ∧ c.retry = c.retry ∧ c.fuel = c.fuel ∧ c.most = c.most ∧ c.init = c.init ∧ c.locks = c.locks ∧ c.conds = c.conds ∧ c.progs = c.progs ∧ (↑c.init.length : Int) = (↑c.init.length : Int) ∧ (0 : Int) = (↑s : Int) ∧
 (s ≤ c.locks.length ∧ ∀ (k : Nat), k < s → (lockF c k).fst = 0) ∧ True) := by kernel_rfl
theorem rl_3 (c : Config) (i : Nat) : Go.Sy.Tree.holds (cutVC F (lookC []) 200 Tryd.f51 b51 (rlF c) 3 (rlC3 c) i) = ( (decide ((↑i : Int) < (↑c.locks.length : Int)) = true → ((0 : Int) ≤ (↑i : Int) ∧ (↑i : Int) <
 (↑c.locks.length : Int)) ∧ (decide ((at1 c.locks (↑i : Int)).kind < 1) = true → (6 : Int) = (lkW c).fst ∧ (↑i : Int) = (lkW c).snd ∧ True) ∧ (decide ((at1 c.locks (↑i : Int)).kind < 1) = false → (decide ((at1 c.locks (↑i
 : Int)).kind > 3) = true → (6 : Int) = (lkW c).fst ∧ (↑i : Int) = (lkW c).snd ∧ True) ∧ (decide ((at1 c.locks (↑i : Int)).kind > 3) = false → (decide ((at1 c.locks (↑i : Int)).fr < 0) = true → (6 : Int) = (lkW c).fst ∧
 (↑i : Int) = (lkW c).snd ∧ True) ∧ (decide ((at1 c.locks (↑i : Int)).fr < 0) = false → (decide ((at1 c.locks (↑i : Int)).len < 0) = true → (6 : Int) = (lkW c).fst ∧ (↑i : Int) = (lkW c).snd ∧ True) ∧ (decide ((at1
 c.locks (↑i : Int)).len < 0) = false → (decide ((at1 c.locks (↑i : Int)).fr > (↑c.init.length : Int)) = true → (6 : Int) = (lkW c).fst ∧ (↑i : Int) = (lkW c).snd ∧ True) ∧ (decide ((at1 c.locks (↑i : Int)).fr >
 (↑c.init.length : Int)) = false → (decide ((at1 c.locks (↑i : Int)).len > IntKind.i64.wrap ((↑c.init.length : Int) - (at1 c.locks (↑i : Int)).fr)) = true → (6 : Int) = (lkW c).fst ∧ (↑i : Int) = (lkW c).snd ∧ True) ∧
 (decide ((at1 c.locks (↑i : Int)).len > IntKind.i64.wrap ((↑c.init.length : Int) - (at1 c.locks (↑i : Int)).fr)) = false → ∃ (s : Nat × Nat), c.engine = c.engine ∧ c.clock = c.clock ∧ c.stripes = c.stripes ∧ c.reads =
 c.reads ∧ c.writes = c.writes ∧ c.retry = c.retry ∧ c.fuel = c.fuel ∧ c.most = c.most ∧ c.init = c.init ∧ c.locks = c.locks ∧ c.conds = c.conds ∧ c.progs = c.progs ∧ (↑c.init.length : Int) = (↑c.init.length : Int) ∧ (↑i
 : Int) = (↑s.fst : Int) ∧ (at1 c.locks (↑i : Int)).kind = (at1 c.locks (↑s.fst : Int)).kind ∧ (at1 c.locks (↑i : Int)).fr = (at1 c.locks (↑s.fst : Int)).fr ∧ (at1 c.locks (↑i : Int)).len = (at1 c.locks (↑s.fst :
 Int)).len ∧ (0 : Int) = (↑s.snd : Int) ∧ (s.fst < c.locks.length ∧ s.snd ≤ s.fst ∧ (∀ (k : Nat), k < s.fst → (lockF c k).fst = 0) ∧ ownOk (↑c.init.length : Int) (at1 c.locks (↑s.fst : Int)) = true ∧ ∀ (y : Lock), y ∈
 List.take s.snd c.locks → clash (at1 c.locks (↑s.fst : Int)) y = false) ∧ (3000000 : Nat) - 2000 * s.fst - 1 - s.snd < 3000000 - 2000 * i ∧ True))))))) ∧ (decide ((↑i : Int) < (↑c.locks.length : Int)) = false → ∃ (s :
 Nat), c.engine = c.engine ∧ c.clock = c.clock ∧ c.stripes = c.stripes ∧ c.reads = c.reads ∧ c.writes = c.writes ∧ c.retry = c.retry ∧ c.fuel = c.fuel ∧ c.most = c.most ∧ c.init = c.init ∧ c.locks = c.locks ∧ c.conds =
 c.conds ∧ c.progs = c.progs ∧ (0 : Int) = (↑s : Int) ∧ (s ≤ c.conds.length ∧ (scan (lockF c) c.locks.length).fst = 0 ∧ ∀ (k : Nat), k < s → (condF c k).fst = 0) ∧ (1000 : Nat) - s < 3000000 - 2000 * i ∧ True)) := by
 kernel_rfl
theorem rl_9 (c : Config) (i k : Nat) : Go.Sy.Tree.holds (cutVC F (lookC []) 200 Tryd.f51 b51 (rlF c) 9 (rlC9 c) (i, k)) = ( (decide ((↑k : Int) < (↑i : Int)) = true → ((0 : Int) ≤ (↑k : Int) ∧ (↑k : Int) <
 (↑c.locks.length : Int)) ∧ (decide ((at1 c.locks (↑i : Int)).len > 0) = true → (decide ((at1 c.locks (↑k : Int)).len > 0) = true → (decide ((at1 c.locks (↑i : Int)).fr < IntKind.i64.wrap ((at1 c.locks (↑k : Int)).fr +
 (at1 c.locks (↑k : Int)).len)) = true → (decide ((at1 c.locks (↑k : Int)).fr < IntKind.i64.wrap ((at1 c.locks (↑i : Int)).fr + (at1 c.locks (↑i : Int)).len)) = true → (6 : Int) = (lkW c).fst ∧ (↑i : Int) = (lkW c).snd ∧
 True) ∧ (decide ((at1 c.locks (↑k : Int)).fr < IntKind.i64.wrap ((at1 c.locks (↑i : Int)).fr + (at1 c.locks (↑i : Int)).len)) = false → ∃ (s : Nat × Nat), c.engine = c.engine ∧ c.clock = c.clock ∧ c.stripes = c.stripes ∧
 c.reads = c.reads ∧ c.writes = c.writes ∧ c.retry = c.retry ∧ c.fuel = c.fuel ∧ c.most = c.most ∧ c.init = c.init ∧ c.locks = c.locks ∧ c.conds = c.conds ∧ c.progs = c.progs ∧ (↑c.init.length : Int) = (↑c.init.length :
 Int) ∧ (↑i : Int) = (↑s.fst : Int) ∧ (at1 c.locks (↑i : Int)).kind = (at1 c.locks (↑s.fst : Int)).kind ∧ (at1 c.locks (↑i : Int)).fr = (at1 c.locks (↑s.fst : Int)).fr ∧ (at1 c.locks (↑i : Int)).len = (at1 c.locks (↑s.fst
 : Int)).len ∧ IntKind.i64.wrap ((↑k : Int) + 1) = (↑s.snd : Int) ∧ (s.fst < c.locks.length ∧ s.snd ≤ s.fst ∧ (∀ (k : Nat), k < s.fst → (lockF c k).fst = 0) ∧ ownOk (↑c.init.length : Int) (at1 c.locks (↑s.fst : Int)) =
 true ∧ ∀ (y : Lock), y ∈ List.take s.snd c.locks → clash (at1 c.locks (↑s.fst : Int)) y = false) ∧ (3000000 : Nat) - 2000 * s.fst - 1 - s.snd < 3000000 - 2000 * i - 1 - k ∧ True)) ∧ (decide ((at1 c.locks (↑i : Int)).fr <
 IntKind.i64.wrap ((at1 c.locks (↑k : Int)).fr + (at1 c.locks (↑k : Int)).len)) = false → ∃ (s : Nat × Nat), c.engine = c.engine ∧ c.clock = c.clock ∧ c.stripes = c.stripes ∧ c.reads = c.reads ∧ c.writes = c.writes ∧
 c.retry = c.retry ∧ c.fuel = c.fuel ∧ c.most = c.most ∧ c.init = c.init ∧ c.locks = c.locks ∧ c.conds = c.conds ∧ c.progs = c.progs ∧ (↑c.init.length : Int) = (↑c.init.length : Int) ∧ (↑i : Int) = (↑s.fst : Int) ∧ (at1
 c.locks (↑i : Int)).kind = (at1 c.locks (↑s.fst : Int)).kind ∧ (at1 c.locks (↑i : Int)).fr = (at1 c.locks (↑s.fst : Int)).fr ∧ (at1 c.locks (↑i : Int)).len = (at1 c.locks (↑s.fst : Int)).len ∧ IntKind.i64.wrap ((↑k :
 Int) + 1) = (↑s.snd : Int) ∧ (s.fst < c.locks.length ∧ s.snd ≤ s.fst ∧ (∀ (k : Nat), k < s.fst → (lockF c k).fst = 0) ∧ ownOk (↑c.init.length : Int) (at1 c.locks (↑s.fst : Int)) = true ∧ ∀ (y : Lock), y ∈ List.take s.snd
 c.locks → clash (at1 c.locks (↑s.fst : Int)) y = false) ∧ (3000000 : Nat) - 2000 * s.fst - 1 - s.snd < 3000000 - 2000 * i - 1 - k ∧ True)) ∧ (decide ((at1 c.locks (↑k : Int)).len > 0) = false → ∃ (s : Nat × Nat),
 c.engine = c.engine ∧ c.clock = c.clock ∧ c.stripes = c.stripes ∧ c.reads = c.reads ∧ c.writes = c.writes ∧ c.retry = c.retry ∧ c.fuel = c.fuel ∧ c.most = c.most ∧ c.init = c.init ∧ c.locks = c.locks ∧ c.conds = c.conds
 ∧ c.progs = c.progs ∧ (↑c.init.length : Int) = (↑c.init.length : Int) ∧ (↑i : Int) = (↑s.fst : Int) ∧ (at1 c.locks (↑i : Int)).kind = (at1 c.locks (↑s.fst : Int)).kind ∧ (at1 c.locks (↑i : Int)).fr = (at1 c.locks (↑s.fst
 : Int)).fr ∧ (at1 c.locks (↑i : Int)).len = (at1 c.locks (↑s.fst : Int)).len ∧ IntKind.i64.wrap ((↑k : Int) + 1) = (↑s.snd : Int) ∧ (s.fst < c.locks.length ∧ s.snd ≤ s.fst ∧ (∀ (k : Nat), k < s.fst → (lockF c k).fst = 0)
 ∧ ownOk (↑c.init.length : Int) (at1 c.locks (↑s.fst : Int)) = true ∧ ∀ (y : Lock), y ∈ List.take s.snd c.locks → clash (at1 c.locks (↑s.fst : Int)) y = false) ∧ (3000000 : Nat) - 2000 * s.fst - 1 - s.snd < 3000000 - 2000
 * i - 1 - k ∧ True)) ∧ (decide ((at1 c.locks (↑i : Int)).len > 0) = false → ∃ (s : Nat × Nat), c.engine = c.engine ∧ c.clock = c.clock ∧ c.stripes = c.stripes ∧ c.reads = c.reads ∧ c.writes = c.writes ∧ c.retry = c.retry
 ∧ c.fuel = c.fuel ∧ c.most = c.most ∧ c.init = c.init ∧ c.locks = c.locks ∧ c.conds = c.conds ∧ c.progs = c.progs ∧ (↑c.init.length : Int) = (↑c.init.length : Int) ∧ (↑i : Int) = (↑s.fst : Int) ∧ (at1 c.locks (↑i :
 Int)).kind = (at1 c.locks (↑s.fst : Int)).kind ∧ (at1 c.locks (↑i : Int)).fr = (at1 c.locks (↑s.fst : Int)).fr ∧ (at1 c.locks (↑i : Int)).len = (at1 c.locks (↑s.fst : Int)).len ∧ IntKind.i64.wrap ((↑k : Int) + 1) =
 (↑s.snd : Int) ∧ (s.fst < c.locks.length ∧ s.snd ≤ s.fst ∧ (∀ (k : Nat), k < s.fst → (lockF c k).fst = 0) ∧ ownOk (↑c.init.length : Int) (at1 c.locks (↑s.fst : Int)) = true ∧ ∀ (y : Lock), y ∈ List.take s.snd c.locks →
 clash (at1 c.locks (↑s.fst : Int)) y = false) ∧ (3000000 : Nat) - 2000 * s.fst - 1 - s.snd < 3000000 - 2000 * i - 1 - k ∧ True)) ∧ (decide ((↑k : Int) < (↑i : Int)) = false → ∃ (s : Nat), c.engine = c.engine ∧ c.clock =
 c.clock ∧ c.stripes = c.stripes ∧ c.reads = c.reads ∧ c.writes = c.writes ∧ c.retry = c.retry ∧ c.fuel = c.fuel ∧ c.most = c.most ∧ c.init = c.init ∧ c.locks = c.locks ∧ c.conds = c.conds ∧ c.progs = c.progs ∧
 (↑c.init.length : Int) = (↑c.init.length : Int) ∧ IntKind.i64.wrap ((↑i : Int) + 1) = (↑s : Int) ∧ (s ≤ c.locks.length ∧ ∀ (k : Nat), k < s → (lockF c k).fst = 0) ∧ (3000000 : Nat) - 2000 * s < 3000000 - 2000 * i - 1 - k
 ∧ True)) := by kernel_rfl
theorem rl_15 (c : Config) (i : Nat) : Go.Sy.Tree.holds (cutVC F (lookC []) 200 Tryd.f51 b51 (rlF c) 15 (rlC15 c) i) = ( (decide ((↑i : Int) < (↑c.conds.length : Int)) = true → ((0 : Int) ≤ (↑i : Int) ∧ (↑i : Int) <
 (↑c.conds.length : Int)) ∧ (decide (at0 c.conds (↑i : Int) < 0) = true → (9 : Int) = (lkW c).fst ∧ (↑i : Int) = (lkW c).snd ∧ True) ∧ (decide (at0 c.conds (↑i : Int) < 0) = false → ((0 : Int) ≤ (↑i : Int) ∧ (↑i : Int) <
 (↑c.conds.length : Int)) ∧ (decide (at0 c.conds (↑i : Int) ≥ (↑c.locks.length : Int)) = true → (9 : Int) = (lkW c).fst ∧ (↑i : Int) = (lkW c).snd ∧ True) ∧ (decide (at0 c.conds (↑i : Int) ≥ (↑c.locks.length : Int)) =
 false → ((0 : Int) ≤ (↑i : Int) ∧ (↑i : Int) < (↑c.conds.length : Int)) ∧ ((0 : Int) ≤ at0 c.conds (↑i : Int) ∧ at0 c.conds (↑i : Int) < (↑c.locks.length : Int)) ∧ (((at1 c.locks (at0 c.conds (↑i : Int))).len == 0) =
 true → (6 : Int) = (lkW c).fst ∧ (↑i : Int) = (lkW c).snd ∧ True) ∧ (((at1 c.locks (at0 c.conds (↑i : Int))).len == 0) = false → ∃ (s : Nat), c.engine = c.engine ∧ c.clock = c.clock ∧ c.stripes = c.stripes ∧ c.reads =
 c.reads ∧ c.writes = c.writes ∧ c.retry = c.retry ∧ c.fuel = c.fuel ∧ c.most = c.most ∧ c.init = c.init ∧ c.locks = c.locks ∧ c.conds = c.conds ∧ c.progs = c.progs ∧ IntKind.i64.wrap ((↑i : Int) + 1) = (↑s : Int) ∧ (s ≤
 c.conds.length ∧ (scan (lockF c) c.locks.length).fst = 0 ∧ ∀ (k : Nat), k < s → (condF c k).fst = 0) ∧ (1000 : Nat) - s < 1000 - i ∧ True)))) ∧ (decide ((↑i : Int) < (↑c.conds.length : Int)) = false → (0 : Int) = (lkW
 c).fst ∧ (-1 : Int) = (lkW c).snd ∧ True)) := by kernel_rfl
theorem rc_e (Q : Config → Prop) (pw : Config → Nat → W3) (c : Config) : Go.Sy.Tree.holds (entryX F (lookC (k3 Q pw)) 200 Tryd.f35 b35 (rcF pw c) [.agg (enc4 c)]) = ( (decide (c.engine < 1) = true → (1 : Int) = (cfgW pw
 c).fst ∧ (-1 : Int) = (cfgW pw c).snd.fst ∧ (-1 : Int) = (cfgW pw c).snd.snd ∧ True) ∧ (decide (c.engine < 1) = false → (decide (c.engine > 2) = true → (1 : Int) = (cfgW pw c).fst ∧ (-1 : Int) = (cfgW pw c).snd.fst ∧ (-1
 : Int) = (cfgW pw c).snd.snd ∧ True) ∧ (decide (c.engine > 2) = false → (decide (c.clock < 1) = true → (1 : Int) = (cfgW pw c).fst ∧ (-1 : Int) = (cfgW pw c).snd.fst ∧ (-1 : Int) = (cfgW pw c).snd.snd ∧ True) ∧ (decide
 (c.clock < 1) = false → (decide (c.clock > 2) = true → (1 : Int) = (cfgW pw c).fst ∧ (-1 : Int) = (cfgW pw c).snd.fst ∧ (-1 : Int) = (cfgW pw c).snd.snd ∧ True) ∧ (decide (c.clock > 2) = false → (decide (c.stripes < 1) =
 true → (1 : Int) = (cfgW pw c).fst ∧ (-1 : Int) = (cfgW pw c).snd.fst ∧ (-1 : Int) = (cfgW pw c).snd.snd ∧ True) ∧ (decide (c.stripes < 1) = false → (decide (c.stripes > 16) = true → (1 : Int) = (cfgW pw c).fst ∧ (-1 :
 Int) = (cfgW pw c).snd.fst ∧ (-1 : Int) = (cfgW pw c).snd.snd ∧ True) ∧ (decide (c.stripes > 16) = false → (decide (c.reads < 1) = true → (1 : Int) = (cfgW pw c).fst ∧ (-1 : Int) = (cfgW pw c).snd.fst ∧ (-1 : Int) =
 (cfgW pw c).snd.snd ∧ True) ∧ (decide (c.reads < 1) = false → (decide (c.reads > 32) = true → (1 : Int) = (cfgW pw c).fst ∧ (-1 : Int) = (cfgW pw c).snd.fst ∧ (-1 : Int) = (cfgW pw c).snd.snd ∧ True) ∧ (decide (c.reads >
 32) = false → (decide (c.writes < 1) = true → (1 : Int) = (cfgW pw c).fst ∧ (-1 : Int) = (cfgW pw c).snd.fst ∧ (-1 : Int) = (cfgW pw c).snd.snd ∧ True) ∧ (decide (c.writes < 1) = false → (decide (c.writes > 32) = true →
 (1 : Int) = (cfgW pw c).fst ∧ (-1 : Int) = (cfgW pw c).snd.fst ∧ (-1 : Int) = (cfgW pw c).snd.snd ∧ True) ∧ (decide (c.writes > 32) = false → (decide (c.retry < 0) = true → (1 : Int) = (cfgW pw c).fst ∧ (-1 : Int) =
 (cfgW pw c).snd.fst ∧ (-1 : Int) = (cfgW pw c).snd.snd ∧ True) ∧ (decide (c.retry < 0) = false → (decide (c.retry > 8) = true → (1 : Int) = (cfgW pw c).fst ∧ (-1 : Int) = (cfgW pw c).snd.fst ∧ (-1 : Int) = (cfgW pw
 c).snd.snd ∧ True) ∧ (decide (c.retry > 8) = false → (decide (c.fuel < 0) = true → (1 : Int) = (cfgW pw c).fst ∧ (-1 : Int) = (cfgW pw c).snd.fst ∧ (-1 : Int) = (cfgW pw c).snd.snd ∧ True) ∧ (decide (c.fuel < 0) = false
 → (decide (c.fuel > 400) = true → (1 : Int) = (cfgW pw c).fst ∧ (-1 : Int) = (cfgW pw c).snd.fst ∧ (-1 : Int) = (cfgW pw c).snd.snd ∧ True) ∧ (decide (c.fuel > 400) = false → (decide (c.most < 0) = true → (1 : Int) =
 (cfgW pw c).fst ∧ (-1 : Int) = (cfgW pw c).snd.fst ∧ (-1 : Int) = (cfgW pw c).snd.snd ∧ True) ∧ (decide (c.most < 0) = false → (decide (c.most > 1099511627776) = true → (1 : Int) = (cfgW pw c).fst ∧ (-1 : Int) = (cfgW pw
 c).snd.fst ∧ (-1 : Int) = (cfgW pw c).snd.snd ∧ True) ∧ (decide (c.most > 1099511627776) = false → (decide ((↑c.init.length : Int) > 32) = true → (1 : Int) = (cfgW pw c).fst ∧ (-1 : Int) = (cfgW pw c).snd.fst ∧ (-1 :
 Int) = (cfgW pw c).snd.snd ∧ True) ∧ (decide ((↑c.init.length : Int) > 32) = false → (decide ((↑c.locks.length : Int) > 4) = true → (1 : Int) = (cfgW pw c).fst ∧ (-1 : Int) = (cfgW pw c).snd.fst ∧ (-1 : Int) = (cfgW pw
 c).snd.snd ∧ True) ∧ (decide ((↑c.locks.length : Int) > 4) = false → (decide ((↑c.conds.length : Int) > 4) = true → (1 : Int) = (cfgW pw c).fst ∧ (-1 : Int) = (cfgW pw c).snd.fst ∧ (-1 : Int) = (cfgW pw c).snd.snd ∧
 True) ∧ (decide ((↑c.conds.length : Int) > 4) = false → (decide ((↑c.progs.length : Int) < 1) = true → (1 : Int) = (cfgW pw c).fst ∧ (-1 : Int) = (cfgW pw c).snd.fst ∧ (-1 : Int) = (cfgW pw c).snd.snd ∧ True) ∧ (decide
 ((↑c.progs.length : Int) < 1) = false → (decide ((↑c.progs.length : Int) > 4) = true → (1 : Int) = (cfgW pw c).fst ∧ (-1 : Int) = (cfgW pw c).snd.fst ∧ (-1 : Int) = (cfgW pw c).snd.snd ∧ True) ∧ (decide ((↑c.progs.length
 : Int) > 4) = false → rlD.pre (Config.mk c.engine c.clock c.stripes c.reads c.writes c.retry c.fuel c.most c.init c.locks c.conds c.progs, ()) ∧ (((lkW (Config.mk c.engine c.clock c.stripes c.reads c.writes c.retry
 c.fuel c.most c.init c.locks c.conds c.progs)).fst != 0) = true → (lkW (Config.mk c.engine c.clock c.stripes c.reads c.writes c.retry c.fuel c.most c.init c.locks c.conds c.progs)).fst = (cfgW pw c).fst ∧ (-1 : Int) =
 (cfgW pw c).snd.fst ∧ (lkW (Config.mk c.engine c.clock c.stripes c.reads c.writes c.retry c.fuel c.most c.init c.locks c.conds c.progs)).snd = (cfgW pw c).snd.snd ∧ True) ∧ (((lkW (Config.mk c.engine c.clock c.stripes
 c.reads c.writes c.retry c.fuel c.most c.init c.locks c.conds c.progs)).fst != 0) = false → ∃ (s : Nat), c.engine = c.engine ∧ c.clock = c.clock ∧ c.stripes = c.stripes ∧ c.reads = c.reads ∧ c.writes = c.writes ∧ c.retry
 = c.retry ∧ c.fuel = c.fuel ∧ c.most = c.most ∧ c.init = c.init ∧ c.locks = c.locks ∧ c.conds = c.conds ∧ c.progs = c.progs ∧ (0 : Int) = (↑s : Int) ∧ (s ≤ c.progs.length ∧ plainB c = true ∧ (scan (lockF c)
 c.locks.length).fst = 0 ∧ (scan (condF c) c.conds.length).fst = 0 ∧ ∀ (k : Nat), k < s → (pw c k).fst = 0) ∧ True))))))))))))))))))))))) := by kernel_rfl
theorem rc_9 (Q : Config → Prop) (pw : Config → Nat → W3) (c : Config) (i : Nat) : Go.Sy.Tree.holds (cutVC F (lookC (k3 Q pw)) 200 Tryd.f35 b35 (rcF pw c) 9 (rcC9 pw c) i) = ( (decide ((↑i : Int) < (↑c.progs.length :
 Int)) = true → (rpD Q pw).pre (Config.mk c.engine c.clock c.stripes c.reads c.writes c.retry c.fuel c.most c.init c.locks c.conds c.progs, (↑i : Int), ()) ∧ (((pw (Config.mk c.engine c.clock c.stripes c.reads c.writes
 c.retry c.fuel c.most c.init c.locks c.conds c.progs) (↑i : Int).toNat).fst != 0) = true → (pw (Config.mk c.engine c.clock c.stripes c.reads c.writes c.retry c.fuel c.most c.init c.locks c.conds c.progs) (↑i :
 Int).toNat).fst = (cfgW pw c).fst ∧ (↑i : Int) = (cfgW pw c).snd.fst ∧ (pw (Config.mk c.engine c.clock c.stripes c.reads c.writes c.retry c.fuel c.most c.init c.locks c.conds c.progs) (↑i : Int).toNat).snd.snd = (cfgW pw
 c).snd.snd ∧ True) ∧ (((pw (Config.mk c.engine c.clock c.stripes c.reads c.writes c.retry c.fuel c.most c.init c.locks c.conds c.progs) (↑i : Int).toNat).fst != 0) = false → ∃ (s : Nat), c.engine = c.engine ∧ c.clock =
 c.clock ∧ c.stripes = c.stripes ∧ c.reads = c.reads ∧ c.writes = c.writes ∧ c.retry = c.retry ∧ c.fuel = c.fuel ∧ c.most = c.most ∧ c.init = c.init ∧ c.locks = c.locks ∧ c.conds = c.conds ∧ c.progs = c.progs ∧
 IntKind.i64.wrap ((↑i : Int) + 1) = (↑s : Int) ∧ (s ≤ c.progs.length ∧ plainB c = true ∧ (scan (lockF c) c.locks.length).fst = 0 ∧ (scan (condF c) c.conds.length).fst = 0 ∧ ∀ (k : Nat), k < s → (pw c k).fst = 0) ∧ (1000
 : Nat) - s < 1000 - i ∧ True)) ∧ (decide ((↑i : Int) < (↑c.progs.length : Int)) = false → (0 : Int) = (cfgW pw c).fst ∧ (0 : Int) = (cfgW pw c).snd.fst ∧ (0 : Int) = (cfgW pw c).snd.snd ∧ True)) := by kernel_rfl
theorem ak_e (Q : Config → Prop) (pw : Config → Nat → W3) (c : Config) (w : W3) : Go.Sy.Tree.holds (entryX F (lookC (k4 Q pw)) 200 Tryd.f21 b21 (akF w) [.agg (enc4 c)]) = ( (cfgD Q pw).pre (Config.mk c.engine c.clock
 c.stripes c.reads c.writes c.retry c.fuel c.most c.init c.locks c.conds c.progs, ()) ∧ (rcD Q pw).pre (Config.mk c.engine c.clock c.stripes c.reads c.writes c.retry c.fuel c.most c.init c.locks c.conds c.progs, ()) ∧ ∃
 (s : AVal), errV (cfgW pw (Config.mk c.engine c.clock c.stripes c.reads c.writes c.retry c.fuel c.most c.init c.locks c.conds c.progs)) = s ∧ (cfgW pw (Config.mk c.engine c.clock c.stripes c.reads c.writes c.retry c.fuel
 c.most c.init c.locks c.conds c.progs)).fst = w.fst ∧ (cfgW pw (Config.mk c.engine c.clock c.stripes c.reads c.writes c.retry c.fuel c.most c.init c.locks c.conds c.progs)).snd.fst = w.snd.fst ∧ (cfgW pw (Config.mk
 c.engine c.clock c.stripes c.reads c.writes c.retry c.fuel c.most c.init c.locks c.conds c.progs)).snd.snd = w.snd.snd ∧ s = errV w ∧ True) := by kernel_rfl
theorem ak_3n (Q : Config → Prop) (pw : Config → Nat → W3) (w : W3) : Go.Sy.Tree.holds (cutVC F (lookC (k4 Q pw)) 200 Tryd.f21 b21 (akF w) 3 (akC w) .nili) = ( ((w.fst == 0) = true → true = true ∧ True) ∧ ((w.fst == 0) =
 false → ∃ (y : Int × List P), AVal.nili = ch y.fst y.snd ∧ whereD.pre (y, ()) ∧ false = true ∧ True)) := by kernel_rfl
theorem ak_3e (Q : Config → Prop) (pw : Config → Nat → W3) (w : W3) (t p : Int) (u : TypeId) (a : AVal) : Go.Sy.Tree.holds (cutVC F (lookC (k4 Q pw)) 200 Tryd.f21 b21 (akF w) 3 (akC w) (.iface 70 (.ipt [.int .i64 t, .int
 .i64 p, .iface u a]))) = ( ((w.fst == 0) = true → false = true ∧ True) ∧ ((w.fst == 0) = false → ∃ (y : Int × List P), AVal.iface (70 : TypeId) (AVal.ipt [AVal.int IntKind.i64 t, AVal.int IntKind.i64 p, AVal.iface u a])
 = ch y.fst y.snd ∧ whereD.pre (y, ()) ∧ ∃ (y_1 : Int × List P), AVal.iface (70 : TypeId) (AVal.ipt [AVal.int IntKind.i64 t, AVal.int IntKind.i64 p, AVal.iface u a]) = ch y_1.fst y_1.snd ∧ codeD.pre (y_1, ()) ∧ ((y_1.fst
 == w.fst) = true → (hdB y.snd = true → ((hdT y.snd == w.snd.fst) = true → ((hdP y.snd == w.snd.snd) = true → ∃ (y : Int × List P), AVal.iface (70 : TypeId) (AVal.ipt [AVal.int IntKind.i64 t, AVal.int IntKind.i64 p,
 AVal.iface u a]) = ch y.fst y.snd ∧ trailD.pre (y, ()) ∧ ((↑(List.map P.p y.snd).length : Int) == 1) = true ∧ True) ∧ ((hdP y.snd == w.snd.snd) = false → false = true ∧ True)) ∧ ((hdT y.snd == w.snd.fst) = false → false
 = true ∧ True)) ∧ (hdB y.snd = false → false = true ∧ True)) ∧ ((y_1.fst == w.fst) = false → false = true ∧ True))) := by kernel_rfl

theorem noneOk : CtrOk F.S (lookC ([] : List (FuncId × Ctr cod))) := lookC_ok fun p h => by cases h
theorem wi_iff {n lo hi : Int} : wi n lo hi = true ↔ lo ≤ n ∧ n ≤ hi := by simp [wi]
theorem wi_e_ok (n lo hi : Int) : Paid (entryX F (lookC []) 200 Tryd.f28 b28 ⟨[], .b (wi n lo hi), []⟩ [.i .i64 n, .i .i64 lo, .i .i64 hi]) := by
  refine ⟨?_⟩
  rw [wi_e]
  exact ⟨fun h => ⟨by rw [wi, h, Bool.true_and], trivial⟩, fun h => ⟨by rw [wi, h, Bool.false_and], trivial⟩⟩
theorem wiOk : CtrOk1 F.S 28 (mkCtr wiD) :=
  mkCtr_paid (fn := Tryd.f28) (body := b28) (ctr := lookC []) codOk noExt hookLow noneOk Tryd.func28 rfl rfl rfl wiD 200 (fun _ => []) (show 3 ≤ 15 by decide) (show 15 ≤ 512 by decide) (by kernel_rfl) (fun _ _ => ⟨rfl, rfl⟩)
    (fun (x : Int × Int × Int × Unit) hp => wi_e_ok x.1 x.2.1 x.2.2.1) (fun x hp p hm => by cases hm)
theorem k1Ok : CtrOk F.S (lookC k1) := lookC_ok fun p h => by
  simp only [k1, List.mem_cons, List.not_mem_nil, or_false] at h
  subst h
  exact wiOk
theorem plain_iff {c : Config} : plainB c = true ↔ (1 ≤ c.engine ∧ c.engine ≤ 2) ∧ (1 ≤ c.clock ∧ c.clock ≤ 2) ∧ (1 ≤ c.stripes ∧ c.stripes ≤ 16) ∧ (1 ≤ c.reads ∧ c.reads ≤ 32) ∧ (1 ≤ c.writes ∧ c.writes ≤ 32) ∧ (0 ≤ c.retry ∧ c.retry ≤ 8) ∧ (0 ≤ c.fuel ∧ c.fuel ≤ 400) ∧
    0 ≤ c.most ∧ c.most ≤ 1099511627776 ∧ (c.init.length : Int) ≤ 32 ∧ (c.locks.length : Int) ≤ 4 ∧ (c.conds.length : Int) ≤ 4 ∧ 1 ≤ (c.progs.length : Int) ∧ (c.progs.length : Int) ≤ 4 := by
  simp only [plainB, Bool.and_eq_true, wi_iff, decide_eq_true_eq, ge_iff_le]
theorem own_iff {n : Int} {x : Lock} : ownOk n x = true ↔ (1 ≤ x.kind ∧ x.kind ≤ 3) ∧ 0 ≤ x.len ∧ (0 ≤ x.fr ∧ x.fr ≤ n) ∧ x.len ≤ IntKind.i64.wrap (n - x.fr) := by
  simp only [ownOk, Bool.and_eq_true, wi_iff, decide_eq_true_eq, ge_iff_le]
theorem clash_iff {x y : Lock} : clash x y = true ↔ 0 < x.len ∧ 0 < y.len ∧ x.fr < IntKind.i64.wrap (y.fr + y.len) ∧ y.fr < IntKind.i64.wrap (x.fr + x.len) := by
  simp only [clash, Bool.and_eq_true, decide_eq_true_eq, gt_iff_lt]
theorem no_clash {x y : Lock} (h : ¬ (0 < x.len ∧ 0 < y.len ∧ x.fr < IntKind.i64.wrap (y.fr + y.len) ∧ y.fr < IntKind.i64.wrap (x.fr + x.len))) : clash x y = false := by
  cases hc : clash x y with
  | false => rfl
  | true => exact (h (clash_iff.1 hc)).elim
theorem lock_iff {c : Config} {l : Nat} : lockOk c l = true ↔ ownOk c.init.length (at1 c.locks l) = true ∧ ∀ y ∈ c.locks.take l, clash (at1 c.locks l) y = false := by
  simp only [lockOk, Bool.and_eq_true, Bool.not_eq_true', List.any_eq_false, Bool.not_eq_true]
theorem lock_bad {c : Config} {l : Nat} (h : ¬ (ownOk c.init.length (at1 c.locks l) = true ∧ ∀ y ∈ c.locks.take l, clash (at1 c.locks l) y = false)) : lockOk c l = false := by
  cases hc : lockOk c l with
  | false => rfl
  | true => exact (h (lock_iff.1 hc)).elim

theorem pl_e_ok (c : Config) : Paid (entryX F (lookC k1) 200 Tryd.f24 b24 ⟨[], .b (plainB c), []⟩ [.agg (enc4 c)]) := by
  refine ⟨?_⟩
  rw [pl_e]
  exact ⟨trivial, fun h0 => ⟨trivial, fun h1 => ⟨trivial, fun h2 => ⟨trivial, fun h3 => ⟨trivial, fun h4 => ⟨trivial, fun h5 => ⟨trivial, fun h6 => ⟨fun h7 => ⟨fun h8 => ⟨fun h9 => ⟨fun h10 => ⟨fun h11 => ⟨trivial, by rw [plainB, h0, h1, h2, h3, h4, h5, h6, h7, h8, h9, h10, h11]; simp only [Bool.true_and], trivial⟩, fun h11 => ⟨by rw [plainB, h0, h1, h2, h3, h4, h5, h6, h7, h8, h9, h10, h11]; simp only [Bool.true_and, Bool.false_and], trivial⟩⟩, fun h10 => ⟨by rw [plainB, h0, h1, h2, h3, h4, h5, h6, h7, h8, h9, h10]; simp only [Bool.true_and, Bool.false_and], trivial⟩⟩, fun h9 => ⟨by rw [plainB, h0, h1, h2, h3, h4, h5, h6, h7, h8, h9]; simp only [Bool.true_and, Bool.false_and], trivial⟩⟩, fun h8 => ⟨by rw [plainB, h0, h1, h2, h3, h4, h5, h6, h7, h8]; simp only [Bool.true_and, Bool.false_and], trivial⟩⟩, fun h7 => ⟨by rw [plainB, h0, h1, h2, h3, h4, h5, h6, h7]; simp only [Bool.true_and, Bool.false_and], trivial⟩⟩, fun h6 => ⟨by rw [plainB, h0, h1, h2, h3, h4, h5, h6]; simp only [Bool.true_and, Bool.false_and], trivial⟩⟩, fun h5 => ⟨by rw [plainB, h0, h1, h2, h3, h4, h5]; simp only [Bool.true_and, Bool.false_and], trivial⟩⟩, fun h4 => ⟨by rw [plainB, h0, h1, h2, h3, h4]; simp only [Bool.true_and, Bool.false_and], trivial⟩⟩, fun h3 => ⟨by rw [plainB, h0, h1, h2, h3]; simp only [Bool.true_and, Bool.false_and], trivial⟩⟩, fun h2 => ⟨by rw [plainB, h0, h1, h2]; simp only [Bool.true_and, Bool.false_and], trivial⟩⟩, fun h1 => ⟨by rw [plainB, h0, h1]; simp only [Bool.true_and, Bool.false_and], trivial⟩⟩, fun h0 => ⟨by rw [plainB, h0]; simp only [Bool.true_and, Bool.false_and], trivial⟩⟩
theorem plOk : CtrOk1 F.S 24 (mkCtr plD) :=
  mkCtr_paid (fn := Tryd.f24) (body := b24) (ctr := lookC k1) codOk noExt hookLow k1Ok Tryd.func24 rfl rfl rfl plD 200 (fun _ => []) (show 1 ≤ 70 by decide) (show 70 ≤ 512 by decide) (by kernel_rfl) (fun _ _ => ⟨rfl, rfl⟩)
    (fun (x : Config × Unit) hp => pl_e_ok x.1) (fun x hp p hm => by cases hm)

theorem lm_e_ok (c : Config) (m : Nat) (hs : small c) (hm : m < c.locks.length) : Paid (entryX F (lookC k1) 200 Tryd.f27 b27 (lmF c m) [.agg (enc4 c), .i .i64 (m : Int)]) := by
  refine ⟨?_⟩
  rw [lm_e]
  have bad : ¬ ownOk c.init.length (at1 c.locks m) = true → false = lockOk c m := fun h => (lock_bad fun k => h k.1).symm
  have nb : ∀ {b : Bool}, (!b) = true → ¬ b = true := fun {b} h => by cases b <;> simp at h ⊢
  have yb : ∀ {b : Bool}, (!b) = false → b = true := fun {b} h => by cases b <;> simp at h ⊢
  refine ⟨⟨by omega, by omega⟩, trivial, fun h1 => ⟨bad fun k => nb h1 (wi_iff.2 (own_iff.1 k).1), trivial⟩, fun h1 => ⟨fun h2 => ⟨bad fun k => ?_, trivial⟩, fun h2 => ⟨trivial, fun h3 => ⟨bad fun k => nb h3 (wi_iff.2 (own_iff.1 k).2.2.1), trivial⟩, fun h3 => ⟨fun h4 => ⟨bad fun k => ?_, trivial⟩, fun h4 => ⟨⟨by omega, by omega, by omega⟩, 0, rfl, rfl, rfl, ?_, ?_, rfl, ⟨hs, Nat.zero_le _, hm, ?_, fun y hy => by simp at hy⟩, trivial⟩⟩⟩⟩⟩
  · have := of_decide_eq_true h2
    have := (own_iff.1 k).2.1
    omega
  · have := of_decide_eq_true h4
    have := (own_iff.1 k).2.2.2
    omega
  · simp
  · simp
    omega
  · have h2 := of_decide_eq_false h2
    have h4 := of_decide_eq_false h4
    exact own_iff.2 ⟨wi_iff.1 (yb h1), by omega, wi_iff.1 (yb h3), by omega⟩
theorem lm_5_ok (c : Config) (l k : Nat) (hs : small c) (hk : k ≤ l) (hl : l < c.locks.length) (ho : ownOk c.init.length (at1 c.locks l) = true) (hc : ∀ y ∈ (c.locks.take l).take k, clash (at1 c.locks l) y = false) :
    Paid (cutVC F (lookC k1) 200 Tryd.f27 b27 (lmF c l) 5 (lmC c l) k) := by
  refine ⟨?_⟩
  rw [lm_5]
  have hlen : (c.locks.take l).length = l := by rw [List.length_take]; omega
  have hs2 := hs.2.1
  refine ⟨fun h => ?_, fun h => ?_⟩
  · have h : k < l := by have := of_decide_eq_true h; omega
    have hk2 : k < (c.locks.take l).length := by omega
    have e : at1 (c.locks.take l) (k : Int) = (c.locks.take l)[k] := at1_get hk2
    have go : clash (at1 c.locks l) (at1 (c.locks.take l) k) = false → ∃ (s : Nat), (at1 c.locks l).kind = (at1 c.locks l).kind ∧ (at1 c.locks l).fr = (at1 c.locks l).fr ∧ (at1 c.locks l).len = (at1 c.locks l).len ∧ List.take l c.locks = List.take l c.locks ∧ (l : Int) = (l : Int) ∧ IntKind.i64.wrap ((k : Int) + 1) = (s : Int) ∧
        (small c ∧ s ≤ l ∧ l < c.locks.length ∧ ownOk c.init.length (at1 c.locks l) = true ∧ ∀ (y : Lock), y ∈ List.take s (List.take l c.locks) → clash (at1 c.locks l) y = false) ∧ l - s < l - k ∧ True := fun hn =>
      ⟨k + 1, rfl, rfl, rfl, rfl, rfl, succ64 (by omega), ⟨hs, h, hl, ho, all_take hc hk2 (by rw [← e]; exact hn)⟩, by omega, trivial⟩
    refine ⟨⟨by omega, by omega⟩, fun h1 => ⟨fun h2 => ⟨fun h3 => ⟨fun h4 => ⟨?_, trivial⟩, fun h4 => go (no_clash fun q => ?_)⟩, fun h3 => go (no_clash fun q => ?_)⟩, fun h2 => go (no_clash fun q => ?_)⟩, fun h1 => go (no_clash fun q => ?_)⟩
    · refine (lock_bad fun q => ?_).symm
      have := q.2 _ (List.getElem_mem hk2)
      rw [← e, clash_iff.2 ⟨of_decide_eq_true h1, of_decide_eq_true h2, of_decide_eq_true h3, of_decide_eq_true h4⟩] at this
      cases this
    · exact of_decide_eq_false h4 q.2.2.2
    · exact of_decide_eq_false h3 q.2.2.1
    · exact of_decide_eq_false h2 q.2.1
    · exact of_decide_eq_false h1 q.1
  · have h : k = l := by have := of_decide_eq_false h; omega
    subst h
    refine ⟨(lock_iff.2 ⟨ho, ?_⟩).symm, trivial⟩
    rwa [List.take_take, Nat.min_self] at hc
theorem lmOk : CtrOk1 F.S 27 (mkCtr lmD) :=
  mkCtr_paid (fn := Tryd.f27) (body := b27) (ctr := lookC k1) codOk noExt hookLow k1Ok Tryd.func27 rfl rfl rfl lmD 200 (fun (x : Config × Int × Unit) => [(5, lmC x.1 x.2.1.toNat)]) (show 2 ≤ 80 by decide) (show 80 ≤ 512 by decide) (by kernel_rfl) (fun _ _ => ⟨rfl, rfl⟩)
    (fun (x : Config × Int × Unit) hp => by
      obtain ⟨c, l, u⟩ := x
      obtain ⟨hs, h0, h1⟩ := hp
      obtain ⟨m, rfl⟩ := Int.eq_ofNat_of_zero_le h0
      exact lm_e_ok c m hs (by have : (m : Int) < c.locks.length := h1; omega))
    (fun (x : Config × Int × Unit) hp p hm s hI => by
      rw [List.mem_singleton] at hm
      subst hm
      exact lm_5_ok x.1 x.2.1.toNat s hI.1 hI.2.1 hI.2.2.1 hI.2.2.2.1 hI.2.2.2.2)

/-! ### What is wrong first -/
structure PwOk (pw : Config → Nat → W3) : Prop where
  zero : ∀ c k, (pw c k).1 = 0 → pw c k = (0, 0, 0)
  one : ∀ c k, (pw c k).1 ≠ 0 → (pw c k).2.1 = k ∧ 1 ≤ (pw c k).1 ∧ (pw c k).1 ≤ 10
section
variable {pw : Config → Nat → W3} {c : Config}
theorem cfg_plain (h : plainB c = false) : cfgW pw c = (1, -1, -1) := if_pos h
theorem lockF_bad {i : Nat} (h : lockOk c i = false) : lockF c i = (6, -1, (i : Int)) := if_neg (by rw [h]; simp)
theorem lockF_good {i : Nat} (h : lockOk c i = true) : lockF c i = (0, 0, 0) := if_pos h
theorem cfg_lock {i : Nat} (hp : plainB c = true) (hi : i < c.locks.length) (hz : ∀ k, k < i → (lockF c k).1 = 0) (hb : lockOk c i = false) : cfgW pw c = (6, -1, (i : Int)) := by
  have e := scan_at (lockF_0 c) hz (by rw [lockF_bad hb]; simp) hi
  rw [cfgW, if_neg (by rw [hp]; simp), if_neg (by rw [e, lockF_bad hb]; simp), e, lockF_bad hb]
theorem locks_good (hz : ∀ k, k < c.locks.length → (lockF c k).1 = 0) : (scan (lockF c) c.locks.length).1 = 0 := by rw [scan_zero (lockF_0 c) hz]
theorem conds_good (hz : ∀ k, k < c.conds.length → (condF c k).1 = 0) : (scan (condF c) c.conds.length).1 = 0 := by rw [scan_zero (condF_0 c) hz]
theorem cfg_cond {i : Nat} {w : W3} (hp : plainB c = true) (hl : (scan (lockF c) c.locks.length).1 = 0) (hi : i < c.conds.length) (hz : ∀ k, k < i → (condF c k).1 = 0) (hw : condF c i = w) (hb : w.1 ≠ 0) : cfgW pw c = w := by
  have e := scan_at (condF_0 c) hz (by rw [hw]; exact hb) hi
  rw [cfgW, if_neg (by rw [hp]; simp), if_pos hl, if_neg (by rw [e, hw]; exact hb), e, hw]
theorem cfg_prog {i : Nat} (hpw : PwOk pw) (hp : plainB c = true) (hl : (scan (lockF c) c.locks.length).1 = 0) (hc : (scan (condF c) c.conds.length).1 = 0) (hi : i < c.progs.length) (hz : ∀ k, k < i → (pw c k).1 = 0) (hb : (pw c i).1 ≠ 0) : cfgW pw c = pw c i := by
  have e := scan_at (hpw.zero c) hz hb hi
  rw [cfgW, if_neg (by rw [hp]; simp), if_pos hl, if_pos hc, e]
theorem cfg_fine (hpw : PwOk pw) (hp : plainB c = true) (hl : (scan (lockF c) c.locks.length).1 = 0) (hc : (scan (condF c) c.conds.length).1 = 0) (hz : ∀ k, k < c.progs.length → (pw c k).1 = 0) : cfgW pw c = (0, 0, 0) := by
  rw [cfgW, if_neg (by rw [hp]; simp), if_pos hl, if_pos hc, scan_zero (hpw.zero c) hz]
theorem scanR {f : Nat → W3} {R : W3 → Prop} (h0 : R (0, 0, 0)) (h : ∀ k, R (f k)) : ∀ n, R (scan f n)
  | 0 => h0
  | n + 1 => by
    rw [scan]
    split
    · exact h n
    · exact scanR h0 h n
theorem cfg_code (hpw : PwOk pw) : (cfgW pw c).1 = 0 ∨ (1 ≤ (cfgW pw c).1 ∧ (cfgW pw c).1 ≤ 10) := by
  unfold cfgW
  split
  · right; decide
  · split
    · split
      · refine scanR (R := fun w => w.1 = 0 ∨ (1 ≤ w.1 ∧ w.1 ≤ 10)) (.inl rfl) (fun k => ?_) _
        by_cases hk : (pw c k).1 = 0
        · exact .inl hk
        · exact .inr (hpw.one c k hk).2
      · refine scanR (R := fun w => w.1 = 0 ∨ (1 ≤ w.1 ∧ w.1 ≤ 10)) (.inl rfl) (fun k => ?_) _
        unfold condF
        split
        · exact .inr ⟨(show (1 : Int) ≤ 9 by decide), (show (9 : Int) ≤ 10 by decide)⟩
        · split
          · exact .inr ⟨(show (1 : Int) ≤ 6 by decide), (show (6 : Int) ≤ 10 by decide)⟩
          · left; rfl
    · refine scanR (R := fun w => w.1 = 0 ∨ (1 ≤ w.1 ∧ w.1 ≤ 10)) (.inl rfl) (fun k => ?_) _
      unfold lockF
      split
      · left; rfl
      · exact .inr ⟨(show (1 : Int) ≤ 6 by decide), (show (6 : Int) ≤ 10 by decide)⟩
theorem condF_9 {i : Nat} (h : at0 c.conds i < 0 ∨ at0 c.conds i ≥ c.locks.length) : condF c i = (9, -1, (i : Int)) := if_pos h
theorem condF_6 {i : Nat} (h : ¬ (at0 c.conds i < 0 ∨ at0 c.conds i ≥ c.locks.length)) (k : (at1 c.locks (at0 c.conds i)).len = 0) : condF c i = (6, -1, (i : Int)) := by rw [condF, if_neg h, if_pos k]
theorem condF_00 {i : Nat} (h : ¬ (at0 c.conds i < 0 ∨ at0 c.conds i ≥ c.locks.length)) (k : ¬ (at1 c.locks (at0 c.conds i)).len = 0) : condF c i = (0, 0, 0) := by rw [condF, if_neg h, if_neg k]
theorem up_zero {f : Nat → W3} {i : Nat} (h : ∀ k, k < i → (f k).1 = 0) (hi : (f i).1 = 0) : ∀ k, k < i + 1 → (f k).1 = 0 := by
  intro k hk
  rcases Nat.lt_or_ge k i with h1 | h1
  · exact h k h1
  · obtain rfl : k = i := by omega
    exact hi
end

theorem k2Ok {Q : Config → Prop} {pw : Config → Nat → W3} (hP : CtrOk1 F.S 16 (mkCtr (progD Q pw))) : CtrOk F.S (lookC (k2 Q pw)) := lookC_ok fun p h => by
  simp only [k2, List.mem_cons, List.not_mem_nil, or_false] at h
  rcases h with rfl | rfl | rfl | rfl | rfl | rfl | rfl
  · exact wiOk
  · exact plOk
  · exact lmOk
  · exact newOk
  · exact putOk
  · exact hP
  · exact asCtrE_ok
section
variable {Q : Config → Prop} {pw : Config → Nat → W3} (hpw : PwOk pw) (c : Config) (hQ : Q c) (hs : small c)
theorem cf_e_ok : Paid (entryX F (lookC (k2 Q pw)) 200 Tryd.f12 b12 (cfF pw c) [.agg (enc4 c)]) := by
  refine ⟨?_⟩
  rw [cf_e]
  refine ⟨trivial, fun h => ⟨⟨by decide, by decide⟩, (1, []), rfl, trivial, ?_, trivial⟩, fun h => ⟨0, rfl, rfl, rfl, rfl, rfl, rfl, rfl, rfl, rfl, rfl, rfl, rfl, rfl, rfl, ⟨Nat.zero_le _, ?_, fun k hk => by omega⟩, trivial⟩⟩
  · have h : plainB c = false := by
      have h : (!plainB c) = true := h
      simpa using h
    rw [cfg_plain h]
    rfl
  · have h : (!plainB c) = false := h
    simpa using h
include hs in
theorem cf_4_ok (i : Nat) (hi : i ≤ c.locks.length) (hp : plainB c = true) (hz : ∀ k, k < i → (lockF c k).1 = 0) : Paid (cutVC F (lookC (k2 Q pw)) 200 Tryd.f12 b12 (cfF pw c) 4 (cfC4 c) i) := by
  refine ⟨?_⟩
  rw [cf_4]
  have h1 := hs.2.1
  have h2 := hs.2.2.1
  refine ⟨fun h => ?_, fun h => ?_⟩
  · have h : i < c.locks.length := by have := of_decide_eq_true h; omega
    refine ⟨⟨hs, by show (0 : Int) ≤ i; omega, by show (i : Int) < c.locks.length; omega⟩, fun k => ⟨⟨by decide, by decide⟩, (6, []), rfl, trivial, ?_, trivial⟩, fun k => ⟨i + 1, rfl, rfl, rfl, rfl, rfl, rfl, rfl, rfl, rfl, rfl, rfl, rfl, rfl, succ64 (by omega), ⟨h, hp, up_zero hz ?_⟩, by omega, trivial⟩⟩
    · have k : (!lockOk c i) = true := k
      rw [cfg_lock hp h hz (by simpa using k)]
      rfl
    · have k : (!lockOk c i) = false := k
      rw [lockF_good (by simpa using k)]
  · have h : i = c.locks.length := by have := of_decide_eq_false h; omega
    subst h
    exact ⟨0, rfl, rfl, rfl, rfl, rfl, rfl, rfl, rfl, rfl, rfl, rfl, rfl, rfl, rfl, rfl, ⟨Nat.zero_le _, hp, locks_good hz, fun k hk => by omega⟩, by omega, trivial⟩
include hs in
theorem cf_10_ok (i : Nat) (hi : i ≤ c.conds.length) (hp : plainB c = true) (hl : (scan (lockF c) c.locks.length).1 = 0) (hz : ∀ k, k < i → (condF c k).1 = 0) : Paid (cutVC F (lookC (k2 Q pw)) 200 Tryd.f12 b12 (cfF pw c) 10 (cfC10 c) i) := by
  refine ⟨?_⟩
  rw [cf_10]
  have h1 := hs.2.1
  have h2 := hs.2.2.1
  have h3 := hs.2.2.2
  have ew : IntKind.i64.wrap ((c.locks.length : Int) - 1) = (c.locks.length : Int) - 1 := wrap64 (by omega) (by omega)
  rw [ew]
  refine ⟨fun h => ?_, fun h => ?_⟩
  · have h : i < c.conds.length := by have := of_decide_eq_true h; omega
    refine ⟨⟨by omega, by omega⟩, trivial, fun k => ⟨⟨by decide, by decide⟩, (9, []), rfl, trivial, ?_, trivial⟩, fun k => ?_⟩
    · have k : ¬ (0 ≤ at0 c.conds i ∧ at0 c.conds i ≤ (c.locks.length : Int) - 1) := by
        intro q
        rw [wi_iff.2 q] at k
        cases k
      rw [cfg_cond hp hl h hz (condF_9 (by omega)) (show (9 : Int) ≠ 0 by decide)]
      rfl
    · have k : 0 ≤ at0 c.conds i ∧ at0 c.conds i ≤ (c.locks.length : Int) - 1 := by
        refine wi_iff.1 ?_
        cases hw : wi (at0 c.conds i) 0 ((c.locks.length : Int) - 1) with
        | true => rfl
        | false => rw [hw] at k; cases k
      have nk : ¬ (at0 c.conds i < 0 ∨ at0 c.conds i ≥ c.locks.length) := by omega
      refine ⟨⟨k.1, by omega⟩, fun q => ⟨⟨by decide, by decide⟩, (6, []), rfl, trivial, ?_, trivial⟩, fun q => ⟨i + 1, rfl, rfl, rfl, rfl, rfl, rfl, rfl, rfl, rfl, rfl, rfl, rfl, rfl, rfl, succ64 (by omega), ⟨h, hp, hl, up_zero hz ?_⟩, by omega, trivial⟩⟩
      · rw [cfg_cond hp hl h hz (condF_6 nk (eq_of_beq q)) (show (6 : Int) ≠ 0 by decide)]
        rfl
      · rw [condF_00 nk (ne_of_beq_false q)]
  · have h : i = c.conds.length := by have := of_decide_eq_false h; omega
    subst h
    exact ⟨0, rfl, rfl, rfl, rfl, rfl, rfl, rfl, rfl, rfl, rfl, rfl, rfl, rfl, rfl, rfl, ⟨Nat.zero_le _, hp, hl, conds_good hz, fun k hk => by omega⟩, by omega, trivial⟩
include hpw hQ hs in
theorem cf_18_ok (i : Nat) (hi : i ≤ c.progs.length) (hp : plainB c = true) (hl : (scan (lockF c) c.locks.length).1 = 0) (hc : (scan (condF c) c.conds.length).1 = 0) (hz : ∀ k, k < i → (pw c k).1 = 0) : Paid (cutVC F (lookC (k2 Q pw)) 200 Tryd.f12 b12 (cfF pw c) 18 (cfC18 pw c) i) := by
  refine ⟨?_⟩
  rw [cf_18]
  have h3 := hs.2.2.2
  refine ⟨fun h => ?_, fun h => ?_⟩
  · have h : i < c.progs.length := by have := of_decide_eq_true h; omega
    refine ⟨⟨hQ, by show (0 : Int) ≤ i; omega, by show (i : Int) < c.progs.length; omega⟩, pw c i, rfl, fun k => ⟨nofun, fun _ => ⟨i + 1, rfl, rfl, rfl, rfl, rfl, rfl, rfl, rfl, rfl, rfl, rfl, rfl, rfl, rfl, succ64 (by omega), ⟨h, hp, hl, hc, up_zero hz (eq_of_beq k)⟩, by omega, trivial⟩⟩, fun k => ⟨fun _ => ⟨?_, trivial⟩, nofun⟩⟩
    have k := ne_of_beq_false k
    rw [cfg_prog hpw hp hl hc h hz k, errV, if_neg k, ch_cons, ch_nil]
  · have h : i = c.progs.length := by have := of_decide_eq_false h; omega
    subst h
    refine ⟨?_, trivial⟩
    rw [cfg_fine hpw hp hl hc hz]
    rfl
end
theorem cfgOk {Q : Config → Prop} {pw : Config → Nat → W3} (hpw : PwOk pw) (hP : CtrOk1 F.S 16 (mkCtr (progD Q pw))) : CtrOk1 F.S 12 (mkCtr (cfgD Q pw)) :=
  mkCtr_paid (fn := Tryd.f12) (body := b12) (ctr := lookC (k2 Q pw)) codOk noExt hookLow (k2Ok hP) Tryd.func12 rfl rfl rfl (cfgD Q pw) 200 (fun (x : Config × Unit) => [(4, cfC4 x.1), (10, cfC10 x.1), (18, cfC18 pw x.1)]) (show 1 ≤ 70 by decide) (show 70 ≤ 512 by decide) (by kernel_rfl) (fun _ _ => ⟨rfl, rfl⟩)
    (fun (x : Config × Unit) hp => cf_e_ok x.1) (fun (x : Config × Unit) hp p hm s hI => by
      simp only [List.mem_cons, List.not_mem_nil, or_false] at hm
      rcases hm with rfl | rfl | rfl
      · exact cf_4_ok x.1 hp.2 s hI.1 hI.2.1 hI.2.2
      · exact cf_10_ok x.1 hp.2 s hI.1 hI.2.1 hI.2.2.1 hI.2.2.2
      · exact cf_18_ok hpw x.1 hp.1 hp.2 s hI.1 hI.2.1 hI.2.2.1 hI.2.2.2.1 hI.2.2.2.2)

/-! ### The document's locks -/
section
variable {c : Config}
theorem lk_lock {i : Nat} (hi : i < c.locks.length) (hz : ∀ k, k < i → (lockF c k).1 = 0) (hb : lockOk c i = false) : (6 : Int) = (lkW c).1 ∧ (i : Int) = (lkW c).2 ∧ True := by
  have e := scan_at (lockF_0 c) hz (by rw [lockF_bad hb]; simp) hi
  rw [lkW, if_neg (by rw [e, lockF_bad hb]; simp), e, lockF_bad hb]
  exact ⟨rfl, rfl, trivial⟩
theorem lk_cond {i : Nat} {a : Int} (hl : (scan (lockF c) c.locks.length).1 = 0) (hi : i < c.conds.length) (hz : ∀ k, k < i → (condF c k).1 = 0) (hw : condF c i = (a, -1, (i : Int))) (hb : a ≠ 0) : a = (lkW c).1 ∧ (i : Int) = (lkW c).2 ∧ True := by
  have e := scan_at (condF_0 c) hz (by rw [hw]; exact hb) hi
  rw [lkW, if_pos hl, if_neg (by rw [e, hw]; exact hb), e, hw]
  exact ⟨rfl, rfl, trivial⟩
theorem lk_fine (hl : (scan (lockF c) c.locks.length).1 = 0) (hz : (scan (condF c) c.conds.length).1 = 0) : lkW c = (0, -1) := by rw [lkW, if_pos hl, if_pos hz]
end
section
variable (c : Config) (hs : small c)
theorem rl_e_ok : Paid (entryX F (lookC []) 200 Tryd.f51 b51 (rlF c) [.agg (enc4 c)]) := by
  refine ⟨?_⟩
  rw [rl_e]
  exact ⟨0, rfl, rfl, rfl, rfl, rfl, rfl, rfl, rfl, rfl, rfl, rfl, rfl, rfl, rfl, ⟨Nat.zero_le _, fun k hk => by omega⟩, trivial⟩
include hs in
theorem rl_3_ok (i : Nat) (hi : i ≤ c.locks.length) (hz : ∀ k, k < i → (lockF c k).1 = 0) : Paid (cutVC F (lookC []) 200 Tryd.f51 b51 (rlF c) 3 (rlC3 c) i) := by
  refine ⟨?_⟩
  rw [rl_3]
  have h1 := hs.2.1
  have h2 := hs.2.2.1
  refine ⟨fun h => ?_, fun h => ?_⟩
  · have h : i < c.locks.length := by have := of_decide_eq_true h; omega
    have bad : ¬ ownOk c.init.length (at1 c.locks i) = true → (6 : Int) = (lkW c).1 ∧ (i : Int) = (lkW c).2 ∧ True := fun q => lk_lock h hz (lock_bad fun k => q k.1)
    refine ⟨⟨by omega, by omega⟩, fun g1 => bad fun q => ?_, fun g1 => ⟨fun g2 => bad fun q => ?_, fun g2 => ⟨fun g3 => bad fun q => ?_, fun g3 => ⟨fun g4 => bad fun q => ?_, fun g4 => ⟨fun g5 => bad fun q => ?_, fun g5 => ⟨fun g6 => bad fun q => ?_, fun g6 => ?_⟩⟩⟩⟩⟩⟩
    · have := of_decide_eq_true g1; have := own_iff.1 q; omega
    · have := of_decide_eq_true g2; have := own_iff.1 q; omega
    · have := of_decide_eq_true g3; have := own_iff.1 q; omega
    · have := of_decide_eq_true g4; have := own_iff.1 q; omega
    · have := of_decide_eq_true g5; have := own_iff.1 q; omega
    · have := of_decide_eq_true g6; have := own_iff.1 q; omega
    · have ho : ownOk c.init.length (at1 c.locks i) = true := by
        have := of_decide_eq_false g1; have := of_decide_eq_false g2; have := of_decide_eq_false g3; have := of_decide_eq_false g4; have := of_decide_eq_false g5; have := of_decide_eq_false g6
        exact own_iff.2 ⟨⟨by omega, by omega⟩, by omega, ⟨by omega, by omega⟩, by omega⟩
      exact ⟨(i, 0), rfl, rfl, rfl, rfl, rfl, rfl, rfl, rfl, rfl, rfl, rfl, rfl, rfl, rfl, rfl, rfl, rfl, rfl, ⟨h, Nat.zero_le _, hz, ho, fun y hy => by simp at hy⟩, (show 3000000 - 2000 * i - 1 - 0 < 3000000 - 2000 * i by omega), trivial⟩
  · have h : i = c.locks.length := by have := of_decide_eq_false h; omega
    subst h
    exact ⟨0, rfl, rfl, rfl, rfl, rfl, rfl, rfl, rfl, rfl, rfl, rfl, rfl, rfl, ⟨Nat.zero_le _, locks_good hz, fun k hk => by omega⟩, by omega, trivial⟩
include hs in
theorem rl_9_ok (i k : Nat) (hi : i < c.locks.length) (hk : k ≤ i) (hz : ∀ k, k < i → (lockF c k).1 = 0) (ho : ownOk c.init.length (at1 c.locks i) = true) (hc : ∀ y ∈ c.locks.take k, clash (at1 c.locks i) y = false) : Paid (cutVC F (lookC []) 200 Tryd.f51 b51 (rlF c) 9 (rlC9 c) (i, k)) := by
  refine ⟨?_⟩
  rw [rl_9]
  have h1 := hs.2.1
  refine ⟨fun h => ?_, fun h => ?_⟩
  · have h : k < i := by have := of_decide_eq_true h; omega
    have hk2 : k < c.locks.length := by omega
    have e : at1 c.locks (k : Int) = c.locks[k] := at1_get hk2
    have hN : clash (at1 c.locks i) (at1 c.locks k) = false → ∀ y ∈ c.locks.take (k + 1), clash (at1 c.locks i) y = false := fun q => all_take hc hk2 (by rw [← e]; exact q)
    have hm : 3000000 - 2000 * i - 1 - (k + 1) < 3000000 - 2000 * i - 1 - k := by omega
    have hw : IntKind.i64.wrap ((k : Int) + 1) = ((k + 1 : Nat) : Int) := succ64 (by omega)
    refine ⟨⟨by omega, by omega⟩, fun g1 => ⟨fun g2 => ⟨fun g3 => ⟨fun g4 => lk_lock hi hz (lock_bad fun q => ?_), fun g4 => ?_⟩, fun g3 => ?_⟩, fun g2 => ?_⟩, fun g1 => ?_⟩
    · have hm : c.locks[k] ∈ c.locks.take i := by
        rw [List.mem_take_iff_getElem]
        exact ⟨k, by omega, rfl⟩
      have := q.2 _ hm
      rw [← e, clash_iff.2 ⟨of_decide_eq_true g1, of_decide_eq_true g2, of_decide_eq_true g3, of_decide_eq_true g4⟩] at this
      cases this
    · exact ⟨(i, k + 1), rfl, rfl, rfl, rfl, rfl, rfl, rfl, rfl, rfl, rfl, rfl, rfl, rfl, rfl, rfl, rfl, rfl, hw, ⟨hi, h, hz, ho, hN (no_clash fun q => of_decide_eq_false g4 q.2.2.2)⟩, hm, trivial⟩
    · exact ⟨(i, k + 1), rfl, rfl, rfl, rfl, rfl, rfl, rfl, rfl, rfl, rfl, rfl, rfl, rfl, rfl, rfl, rfl, rfl, hw, ⟨hi, h, hz, ho, hN (no_clash fun q => of_decide_eq_false g3 q.2.2.1)⟩, hm, trivial⟩
    · exact ⟨(i, k + 1), rfl, rfl, rfl, rfl, rfl, rfl, rfl, rfl, rfl, rfl, rfl, rfl, rfl, rfl, rfl, rfl, rfl, hw, ⟨hi, h, hz, ho, hN (no_clash fun q => of_decide_eq_false g2 q.2.1)⟩, hm, trivial⟩
    · exact ⟨(i, k + 1), rfl, rfl, rfl, rfl, rfl, rfl, rfl, rfl, rfl, rfl, rfl, rfl, rfl, rfl, rfl, rfl, rfl, hw, ⟨hi, h, hz, ho, hN (no_clash fun q => of_decide_eq_false g1 q.1)⟩, hm, trivial⟩
  · have h : k = i := by have := of_decide_eq_false h; omega
    subst h
    exact ⟨k + 1, rfl, rfl, rfl, rfl, rfl, rfl, rfl, rfl, rfl, rfl, rfl, rfl, rfl, succ64 (by omega), ⟨hi, up_zero hz (by rw [lockF_good (lock_iff.2 ⟨ho, hc⟩)])⟩, by omega, trivial⟩
include hs in
theorem rl_15_ok (i : Nat) (hi : i ≤ c.conds.length) (hl : (scan (lockF c) c.locks.length).1 = 0) (hz : ∀ k, k < i → (condF c k).1 = 0) : Paid (cutVC F (lookC []) 200 Tryd.f51 b51 (rlF c) 15 (rlC15 c) i) := by
  refine ⟨?_⟩
  rw [rl_15]
  have h2 := hs.2.2.1
  refine ⟨fun h => ?_, fun h => ?_⟩
  · have h : i < c.conds.length := by have := of_decide_eq_true h; omega
    refine ⟨⟨by omega, by omega⟩, fun g1 => lk_cond hl h hz (condF_9 (.inl (of_decide_eq_true g1))) (by decide), fun g1 => ⟨⟨by omega, by omega⟩, fun g2 => lk_cond hl h hz (condF_9 (.inr (of_decide_eq_true g2))) (by decide), fun g2 => ?_⟩⟩
    have g1 := of_decide_eq_false g1
    have g2 := of_decide_eq_false g2
    have nk : ¬ (at0 c.conds i < 0 ∨ at0 c.conds i ≥ c.locks.length) := by omega
    exact ⟨⟨by omega, by omega⟩, ⟨by omega, by omega⟩, fun q => lk_cond hl h hz (condF_6 nk (eq_of_beq q)) (by decide), fun q => ⟨i + 1, rfl, rfl, rfl, rfl, rfl, rfl, rfl, rfl, rfl, rfl, rfl, rfl, succ64 (by omega), ⟨h, hl, up_zero hz (by rw [condF_00 nk (ne_of_beq_false q)])⟩, by omega, trivial⟩⟩
  · have h : i = c.conds.length := by have := of_decide_eq_false h; omega
    subst h
    rw [lk_fine hl (conds_good hz)]
    exact ⟨rfl, rfl, trivial⟩
end
theorem rlOk : CtrOk1 F.S 51 (mkCtr rlD) :=
  mkCtr_paid (fn := Tryd.f51) (body := b51) (ctr := lookC []) codOk noExt hookLow noneOk Tryd.func51 rfl rfl rfl rlD 200 (fun (x : Config × Unit) => [(3, rlC3 x.1), (9, rlC9 x.1), (15, rlC15 x.1)]) (show 1 ≤ 135 by decide) (show 135 ≤ 512 by decide) (by kernel_rfl) (fun _ _ => ⟨rfl, rfl⟩)
    (fun (x : Config × Unit) hp => rl_e_ok x.1) (fun (x : Config × Unit) hp p hm s hI => by
      simp only [List.mem_cons, List.not_mem_nil, or_false] at hm
      rcases hm with rfl | rfl | rfl
      · exact rl_3_ok x.1 hp s hI.1 hI.2
      · exact rl_9_ok x.1 hp s.1 s.2 hI.1 hI.2.1 hI.2.2.1 hI.2.2.2.1 hI.2.2.2.2
      · exact rl_15_ok x.1 hp s hI.1 hI.2.1 hI.2.2)

/-! ### The document's Config -/
theorem k3Ok {Q : Config → Prop} {pw : Config → Nat → W3} (hP : CtrOk1 F.S 52 (mkCtr (rpD Q pw))) : CtrOk F.S (lookC (k3 Q pw)) := lookC_ok fun p h => by
  simp only [k3, List.mem_cons, List.not_mem_nil, or_false] at h
  rcases h with rfl | rfl
  · exact rlOk
  · exact hP

section
variable {Q : Config → Prop} {pw : Config → Nat → W3} (hpw : PwOk pw) (c : Config) (hQ : Q c) (hs : small c)
include hs in
theorem rc_e_ok : Paid (entryX F (lookC (k3 Q pw)) 200 Tryd.f35 b35 (rcF pw c) [.agg (enc4 c)]) := by
  refine ⟨?_⟩
  rw [rc_e]
  have bad : ¬ plainB c = true → (1 : Int) = (cfgW pw c).fst ∧ (-1 : Int) = (cfgW pw c).snd.fst ∧ (-1 : Int) = (cfgW pw c).snd.snd ∧ True := fun q => by
    rw [cfg_plain (by simpa using q)]
    exact ⟨rfl, rfl, rfl, trivial⟩
  refine ⟨fun g0 => bad fun q => ?_, fun g0 => ⟨fun g1 => bad fun q => ?_, fun g1 => ⟨fun g2 => bad fun q => ?_, fun g2 => ⟨fun g3 => bad fun q => ?_, fun g3 => ⟨fun g4 => bad fun q => ?_, fun g4 => ⟨fun g5 => bad fun q => ?_, fun g5 => ⟨fun g6 => bad fun q => ?_, fun g6 => ⟨fun g7 => bad fun q => ?_, fun g7 => ⟨fun g8 => bad fun q => ?_, fun g8 => ⟨fun g9 => bad fun q => ?_, fun g9 => ⟨fun g10 => bad fun q => ?_, fun g10 => ⟨fun g11 => bad fun q => ?_, fun g11 => ⟨fun g12 => bad fun q => ?_, fun g12 => ⟨fun g13 => bad fun q => ?_, fun g13 => ⟨fun g14 => bad fun q => ?_, fun g14 => ⟨fun g15 => bad fun q => ?_, fun g15 => ⟨fun g16 => bad fun q => ?_, fun g16 => ⟨fun g17 => bad fun q => ?_, fun g17 => ⟨fun g18 => bad fun q => ?_, fun g18 => ⟨fun g19 => bad fun q => ?_, fun g19 => ⟨fun g20 => bad fun q => ?_, fun g20 => ?_⟩⟩⟩⟩⟩⟩⟩⟩⟩⟩⟩⟩⟩⟩⟩⟩⟩⟩⟩⟩⟩
  · have := of_decide_eq_true g0; have := plain_iff.1 q; omega
  · have := of_decide_eq_true g1; have := plain_iff.1 q; omega
  · have := of_decide_eq_true g2; have := plain_iff.1 q; omega
  · have := of_decide_eq_true g3; have := plain_iff.1 q; omega
  · have := of_decide_eq_true g4; have := plain_iff.1 q; omega
  · have := of_decide_eq_true g5; have := plain_iff.1 q; omega
  · have := of_decide_eq_true g6; have := plain_iff.1 q; omega
  · have := of_decide_eq_true g7; have := plain_iff.1 q; omega
  · have := of_decide_eq_true g8; have := plain_iff.1 q; omega
  · have := of_decide_eq_true g9; have := plain_iff.1 q; omega
  · have := of_decide_eq_true g10; have := plain_iff.1 q; omega
  · have := of_decide_eq_true g11; have := plain_iff.1 q; omega
  · have := of_decide_eq_true g12; have := plain_iff.1 q; omega
  · have := of_decide_eq_true g13; have := plain_iff.1 q; omega
  · have := of_decide_eq_true g14; have := plain_iff.1 q; omega
  · have := of_decide_eq_true g15; have := plain_iff.1 q; omega
  · have := of_decide_eq_true g16; have := plain_iff.1 q; omega
  · have := of_decide_eq_true g17; have := plain_iff.1 q; omega
  · have := of_decide_eq_true g18; have := plain_iff.1 q; omega
  · have := of_decide_eq_true g19; have := plain_iff.1 q; omega
  · have := of_decide_eq_true g20; have := plain_iff.1 q; omega
  · have hp : plainB c = true := by
      have := of_decide_eq_false g0
      have := of_decide_eq_false g1
      have := of_decide_eq_false g2
      have := of_decide_eq_false g3
      have := of_decide_eq_false g4
      have := of_decide_eq_false g5
      have := of_decide_eq_false g6
      have := of_decide_eq_false g7
      have := of_decide_eq_false g8
      have := of_decide_eq_false g9
      have := of_decide_eq_false g10
      have := of_decide_eq_false g11
      have := of_decide_eq_false g12
      have := of_decide_eq_false g13
      have := of_decide_eq_false g14
      have := of_decide_eq_false g15
      have := of_decide_eq_false g16
      have := of_decide_eq_false g17
      have := of_decide_eq_false g18
      have := of_decide_eq_false g19
      have := of_decide_eq_false g20
      refine plain_iff.2 ⟨⟨?_, ?_⟩, ⟨?_, ?_⟩, ⟨?_, ?_⟩, ⟨?_, ?_⟩, ⟨?_, ?_⟩, ⟨?_, ?_⟩, ⟨?_, ?_⟩, ?_, ?_, ?_, ?_, ?_, ?_, ?_⟩ <;> omega
    refine ⟨hs, fun k => ?_, fun k => ?_⟩
    · have k : ((lkW c).1 != 0) = true := k
      have k : (lkW c).1 ≠ 0 := by simpa using k
      show (lkW c).1 = _ ∧ _ ∧ (lkW c).2 = _ ∧ True
      rw [cfgW, if_neg (by rw [hp]; simp)]
      unfold lkW at k ⊢
      have hl2 : (scan (lockF c) c.locks.length).1 ≠ 0 → (scan (lockF c) c.locks.length).2.1 = -1 := fun h => by
        refine scanR (R := fun w => w.1 ≠ 0 → w.2.1 = -1) (fun h => (h rfl).elim) (fun k => ?_) _ h
        unfold lockF
        split
        · exact fun h => (h rfl).elim
        · exact fun _ => rfl
      have hc2 : (scan (condF c) c.conds.length).1 ≠ 0 → (scan (condF c) c.conds.length).2.1 = -1 := fun h => by
        refine scanR (R := fun w => w.1 ≠ 0 → w.2.1 = -1) (fun h => (h rfl).elim) (fun k => ?_) _ h
        unfold condF
        split
        · exact fun _ => rfl
        · split
          · exact fun _ => rfl
          · exact fun h => (h rfl).elim
      by_cases hl : (scan (lockF c) c.locks.length).1 = 0
      · rw [if_pos hl] at k
        by_cases hc : (scan (condF c) c.conds.length).1 = 0
        · rw [if_pos hc] at k
          exact (k rfl).elim
        · rw [if_pos hl, if_pos hl, if_neg hc, if_neg hc]
          exact ⟨rfl, (hc2 hc).symm, rfl, trivial⟩
      · rw [if_neg hl, if_neg hl]
        exact ⟨rfl, (hl2 hl).symm, rfl, trivial⟩
    · have k : ((lkW c).1 != 0) = false := k
      have k : (lkW c).1 = 0 := by simpa using k
      unfold lkW at k
      have hl : (scan (lockF c) c.locks.length).1 = 0 := by
        by_cases hl : (scan (lockF c) c.locks.length).1 = 0
        · exact hl
        · rw [if_neg hl] at k; exact k
      rw [if_pos hl] at k
      have hc : (scan (condF c) c.conds.length).1 = 0 := by
        by_cases hc : (scan (condF c) c.conds.length).1 = 0
        · exact hc
        · rw [if_neg hc] at k; exact k
      exact ⟨0, rfl, rfl, rfl, rfl, rfl, rfl, rfl, rfl, rfl, rfl, rfl, rfl, rfl, ⟨Nat.zero_le _, hp, hl, hc, fun k hk => by omega⟩, trivial⟩
include hpw hQ hs in
theorem rc_9_ok (i : Nat) (hi : i ≤ c.progs.length) (hp : plainB c = true) (hl : (scan (lockF c) c.locks.length).1 = 0) (hc : (scan (condF c) c.conds.length).1 = 0) (hz : ∀ k, k < i → (pw c k).1 = 0) : Paid (cutVC F (lookC (k3 Q pw)) 200 Tryd.f35 b35 (rcF pw c) 9 (rcC9 pw c) i) := by
  refine ⟨?_⟩
  rw [rc_9]
  have h3 := hs.2.2.2
  refine ⟨fun h => ?_, fun h => ?_⟩
  · have h : i < c.progs.length := by have := of_decide_eq_true h; omega
    refine ⟨⟨hQ, by show (0 : Int) ≤ i; omega, by show (i : Int) < c.progs.length; omega⟩, fun k => ?_, fun k => ⟨i + 1, rfl, rfl, rfl, rfl, rfl, rfl, rfl, rfl, rfl, rfl, rfl, rfl, succ64 (by omega), ⟨h, hp, hl, hc, up_zero hz ?_⟩, by omega, trivial⟩⟩
    · have k : ((pw c i).1 != 0) = true := k
      have k : (pw c i).1 ≠ 0 := by simpa using k
      rw [cfg_prog hpw hp hl hc h hz k]
      exact ⟨rfl, (hpw.one c i k).1.symm, rfl, trivial⟩
    · have k : ((pw c i).1 != 0) = false := k
      simpa using k
  · have h : i = c.progs.length := by have := of_decide_eq_false h; omega
    subst h
    rw [cfg_fine hpw hp hl hc hz]
    exact ⟨rfl, rfl, rfl, trivial⟩
end
theorem rcOk {Q : Config → Prop} {pw : Config → Nat → W3} (hpw : PwOk pw) (hP : CtrOk1 F.S 52 (mkCtr (rpD Q pw))) : CtrOk1 F.S 35 (mkCtr (rcD Q pw)) :=
  mkCtr_paid (fn := Tryd.f35) (body := b35) (ctr := lookC (k3 Q pw)) codOk noExt hookLow (k3Ok hP) Tryd.func35 rfl rfl rfl (rcD Q pw) 200 (fun (x : Config × Unit) => [(9, rcC9 pw x.1)]) (show 1 ≤ 143 by decide) (show 143 ≤ 512 by decide) (by kernel_rfl) (fun _ _ => ⟨rfl, rfl⟩)
    (fun (x : Config × Unit) hp => rc_e_ok x.1 hp.2) (fun (x : Config × Unit) hp p hm s hI => by
      rw [List.mem_singleton] at hm
      subst hm
      exact rc_9_ok hpw x.1 hp.1 hp.2 s hI.1 hI.2.1 hI.2.2.1 hI.2.2.2.1 hI.2.2.2.2)

/-! ### asks -/
theorem k4Ok {Q : Config → Prop} {pw : Config → Nat → W3} (hpw : PwOk pw) (h1 : CtrOk1 F.S 16 (mkCtr (progD Q pw))) (h2 : CtrOk1 F.S 52 (mkCtr (rpD Q pw))) : CtrOk F.S (lookC (k4 Q pw)) := lookC_ok fun p h => by
  simp only [k4, List.mem_cons, List.not_mem_nil, or_false] at h
  rcases h with rfl | rfl | rfl | rfl | rfl
  · exact cfgOk hpw h1
  · exact rcOk hpw h2
  · exact whereOk
  · exact codeOk
  · exact trailOk
theorem ak_e_ok {Q : Config → Prop} {pw : Config → Nat → W3} (c : Config) (hQ : Q c) (hs : small c) : Paid (entryX F (lookC (k4 Q pw)) 200 Tryd.f21 b21 (akF (cfgW pw c)) [.agg (enc4 c)]) := by
  refine ⟨?_⟩
  rw [ak_e]
  exact ⟨⟨hQ, hs⟩, ⟨hQ, hs⟩, _, rfl, rfl, rfl, rfl, rfl, trivial⟩
theorem ak_3_ok {Q : Config → Prop} {pw : Config → Nat → W3} (w : W3) (hw : w.1 = 0 ∨ (1 ≤ w.1 ∧ w.1 ≤ 10)) (e : AVal) (he : e = errV w) : Paid (cutVC F (lookC (k4 Q pw)) 200 Tryd.f21 b21 (akF w) 3 (akC w) e) := by
  by_cases h0 : w.1 = 0
  · rw [errV, if_pos h0] at he
    subst he
    refine ⟨?_⟩
    rw [ak_3n]
    exact ⟨fun _ => ⟨rfl, trivial⟩, fun h => (ne_of_beq_false h h0).elim⟩
  · rw [errV, if_neg h0] at he
    obtain ⟨u, a, e1, _⟩ := ch_is w.1 []
    have hch : AVal.iface 70 (.ipt [.int .i64 w.2.1, .int .i64 w.2.2, .iface u a]) = ch w.1 [⟨w.2.1, w.2.2⟩] := by rw [ch_cons, e1]
    rw [← hch] at he
    subst he
    have hr : 1 ≤ w.1 ∧ w.1 ≤ 10 := by omega
    refine ⟨?_⟩
    rw [ak_3e]
    refine ⟨fun h => (h0 (eq_of_beq h)).elim, fun _ => ⟨(w.1, [⟨w.2.1, w.2.2⟩]), hch, trivial, (w.1, [⟨w.2.1, w.2.2⟩]), hch, hr, fun _ => ⟨fun _ => ⟨fun _ => ⟨fun _ => ⟨(w.1, [⟨w.2.1, w.2.2⟩]), hch, ?_, rfl, trivial⟩, fun h => ?_⟩, fun h => ?_⟩, fun h => ?_⟩, fun h => ?_⟩⟩
    · show 1 ≤ 20
      decide
    · exact (ne_of_beq_false h rfl).elim
    · exact (ne_of_beq_false h rfl).elim
    · cases h
    · exact (ne_of_beq_false h rfl).elim
theorem asksOk {Q : Config → Prop} {pw : Config → Nat → W3} (hpw : PwOk pw) (h1 : CtrOk1 F.S 16 (mkCtr (progD Q pw))) (h2 : CtrOk1 F.S 52 (mkCtr (rpD Q pw))) : CtrOk1 F.S 21 (mkCtr (akD Q)) :=
  mkCtr_paid (fn := Tryd.f21) (body := b21) (ctr := lookC (k4 Q pw)) codOk noExt hookLow (k4Ok hpw h1 h2) Tryd.func21 rfl rfl rfl (akD Q) 200 (fun (x : Config × Unit) => [(3, akC (cfgW pw x.1))]) (show 1 ≤ 55 by decide) (show 55 ≤ 512 by decide) (by kernel_rfl) (fun _ _ => ⟨rfl, rfl⟩)
    (fun (x : Config × Unit) hp => ak_e_ok x.1 hp.1 hp.2) (fun (x : Config × Unit) hp p hm s hI => by
      rw [List.mem_singleton] at hm
      subst hm
      exact ak_3_ok (cfgW pw x.1) (cfg_code hpw) s hI)
end Go.Proofs.YtjboohjicdmidaaDoor

/- check.Prog: what its walk answers. -/
import Derived.Test.YtcholkmididfmaaGreatDoorMw
import Derived.Test.YtcholkmididfmaaGreatDoorLib5
namespace Go.Proofs.YtcholkmididfmaaGreatDoor
open Go.RowKit Go.Am Go.Sy
set_option linter.unusedVariables false
abbrev W3 := Int × Int × Int
def wi (n lo hi : Int) : Bool := decide (n ≥ lo) && decide (n ≤ hi)
def wiD : CtrD cod where
 pats := [.int .i64,.int .i64,.int .i64]
 pre := fun x => True
 res := fun (x : Int × Int × Int × Unit) => .b (wi x.1 x.2.1 x.2.2.1)
 objs := fun x => []
noncomputable def b85 : Code := Tryz.f85.body.getD .skip
def small (c : Config) : Prop := c.init.length ≤ 1000 ∧ c.locks.length ≤ 1000 ∧ c.conds.length ≤ 1000 ∧ c.progs.length ≤ 1000
def writesB (o : List Instr) : Bool := o.any fun x => x.b == 0
def waitF (conds : List Int) (o : List Instr) (x : Instr) : Int := if x.a ≥ conds.length then 9 else if (o.length : Int) ≠ 1 ∨ (at2 o 0).a ≠ at0 conds x.a then 6 else if (at2 o 0).b = 1 then 7 else 0
def wakeF (conds : List Int) (o : List Instr) (x : Instr) : Int := if x.a ≥ conds.length then 9 else match o.find? (fun y => y.a == at0 conds x.a) with
 | none => 6
 | some y => if y.b = 1 then 7 else 0
def wrD : CtrD cod where
 pats := [.frow 9]
 pre := fun (x : Wk × Unit) => x.1.o.length ≤ 1000
 res := fun (x : Wk × Unit) => .b (writesB x.1.o)
 objs := fun x => []
def wrC (w : Wk) : CutD cod := ⟨Nat,fun k => k ≤ w.o.length ∧ ∀ y ∈ w.o.take k,(y.b == 0) = false,fun k => w.o.length - k,
 fun k => [(8,.tl (T := T) 2 w.o),(9,.i .i64 w.o.length),(10,.i .i64 k)],fun _ => []⟩
def waD : CtrD cod where
 pats := [.frow 9,.row 2]
 pre := fun (x : Wk × Instr × Unit) => x.1.o.length ≤ 1000 ∧ 0 ≤ x.2.1.a
 res := fun (x : Wk × Instr × Unit) => .i .i64 (waitF x.1.conds x.1.o x.2.1)
 objs := fun x => []
def wkD : CtrD cod where
 pats := [.frow 9,.row 2]
 pre := fun (x : Wk × Instr × Unit) => x.1.o.length ≤ 1000 ∧ 0 ≤ x.2.1.a
 res := fun (x : Wk × Instr × Unit) => .i .i64 (wakeF x.1.conds x.1.o x.2.1)
 objs := fun x => []
def wkC (w : Wk) (x : Instr) : CutD cod := ⟨Nat,fun k => k ≤ w.o.length ∧ x.a < w.conds.length ∧ ∀ y ∈ w.o.take k,(y.a == at0 w.conds x.a) = false,fun k => w.o.length - k,
 fun k => [(0,.fp (enc9 w)),(3,.ptr 0 0),(19,.tl (T := T) 2 w.o),(20,.i .i64 w.o.length),(21,.i .i64 k)],fun _ => [.cells (enc2 x)]⟩
structure WS where
 o : List Instr
 top : Int
 loops : Int
def wcode (c : Config) (x : Instr) (w : WS) : Int :=
 if x.op = 13 then (if x.a ≥ c.locks.length then 6 else if x.b = 1 ∧ (at1 c.locks x.a).kind ≠ 3 then 7 else if (w.o.length : Int) = 0 then 0 else if (w.o.length : Int) ≥ 3 then 5 else if w.loops > 0 ∨ x.a ≤ w.top then 8 else 0)
 else if x.op = 9 then (if (w.o.length : Int) > 0 ∧ writesB w.o = false then 7 else 0)
 else if x.op = 10 ∨ x.op = 11 then (if writesB w.o = false then 7 else 0)
 else if x.op = 15 then waitF c.conds w.o x
 else if x.op = 16 ∨ x.op = 17 then wakeF c.conds w.o x
 else 0
def mx (a b : Int) : Int := if a < b then b else a
def wnext (x : Instr) (w : WS) : WS :=
 if x.op = 13 then ⟨w.o ++ [x],mx (if (w.o.length : Int) = 0 then -1 else w.top) x.a,if (w.o.length : Int) = 0 then 0 else w.loops⟩
 else if x.op = 14 then ⟨w.o.take (w.o.length - 1),w.top,w.loops⟩
 else if x.op = 21 then ⟨w.o,w.top,w.loops + 1⟩
 else if x.op = 22 then ⟨w.o,w.top,w.loops - 1⟩
 else w
def wgo (c : Config) (t : Nat) (p : List Instr) : Nat → Nat → WS → W3
 | 0,_,_ => (0,0,0)
 | r + 1,i,w => if wcode c (at2 p i) w = 0 then wgo c t p r (i + 1) (wnext (at2 p i) w) else (wcode c (at2 p i) w,t,i)
def mayGo (p : List Instr) : Nat → Nat → Int
 | 0,_ => -1
 | r + 1,i => if mayB (at2 p i) = true then mayGo p r (i + 1) else i
def progP (c : Config) (t : Nat) (p : List Instr) : W3 := if (p.length : Int) > 48 then (4,t,-1) else if mayGo p p.length 0 ≥ 0 then (1,t,mayGo p p.length 0) else if (matesR p).2 ≥ 0 then (5,t,(matesR p).2) else wgo c t p p.length 0 ⟨[],0,0⟩
def pwC (c : Config) (t : Nat) : W3 := progP c t (at3 c.progs t)
def cnt (p : List Instr) (s : List Blk) : Nat := (s.filter fun b => (at2 p b.a).op == 13).length
structure PgS where
 i : Nat
 w : WS
 q : MS
def pgC7 (c : Config) (t : Nat) : CutD cod := ⟨Nat,fun i => i ≤ (at3 c.progs t).length ∧ (at3 c.progs t).length ≤ 48 ∧ mayGo (at3 c.progs t) ((at3 c.progs t).length - i) i = mayGo (at3 c.progs t) (at3 c.progs t).length 0 ∧ (∀ k,k < i → mayB (at2 (at3 c.progs t) k) = true) ∧ pwC c t = (0,0,0),fun i => 200 - i,
 fun i => [(1,.i .i64 t),(2,.ptr 0 0),(5,.tl (T := T) 2 (at3 c.progs t)),(35,.tl (T := T) 2 (at3 c.progs t)),(36,.i .i64 (at3 c.progs t).length),(37,.i .i64 i)],fun _ => [.cells (enc4 c)]⟩
def pgI (c : Config) (t : Nat) (p : List Instr) (s : PgS) : Prop := s.i ≤ p.length ∧ p.length ≤ 48 ∧ (∀ k,k < p.length → mayB (at2 p k) = true) ∧ pwC c t = wgo c t p (p.length - s.i) s.i s.w ∧ (-(s.i : Int) ≤ s.w.loops ∧ s.w.loops ≤ s.i) ∧ s.w.o.length ≤ s.i ∧
 (matesR p).2 < 0 ∧ mtI p ⟨s.q,s.i⟩ ∧ s.w.o.length = cnt p s.q.s ∧ pwC c t = (0,0,0)
def pgC17 (c : Config) (t : Nat) : CutD cod := ⟨PgS,fun s => pgI c t (at3 c.progs t) s,fun s => 100 - s.i,
 fun s => [(1,.i .i64 t),(10,.ptr 0 0),(64,.tl (T := T) 2 (at3 c.progs t)),(65,.i .i64 (at3 c.progs t).length),(66,.i .i64 s.i)],
 fun s => [.cells (enc4 c ++ [.R 1,.i .i64 s.w.top,.i .i64 s.w.loops]),.rows 2 s.w.o false 1]⟩
def prD : CtrD cod where
 pats := [.row 4,.int .i64]
 pre := fun (x : Config × Int × Unit) => small x.1 ∧ 0 ≤ x.2.1 ∧ x.2.1 < x.1.progs.length ∧ pwC x.1 x.2.1.toNat = (0,0,0)
 res := fun (x : Config × Int × Unit) => .a .nili
 objs := fun x => []
def pgF (c : Config) (t : Nat) : FnD cod := ⟨[(7,pgC7 c t),(17,pgC17 c t)],.a .nili,[]⟩
noncomputable def b48 : Code := Tryz.f150.body.getD .skip
noncomputable def b49 : Code := Tryz.f151.body.getD .skip
noncomputable def b50 : Code := Tryz.f152.body.getD .skip
noncomputable def b16 : Code := Tryz.f87.body.getD .skip
noncomputable def g1 : List (FuncId × Ctr cod) := [(85,mkCtr wiD),(83,noCtr),(82,noCtr),(123,mkCtr mayD),(53,mtCt),(150,mkCtr wrD),(151,mkCtr waD),(152,mkCtr wkD)]
end Go.Proofs.YtcholkmididfmaaGreatDoor
/- check.Prog: its contract is paid. -/
namespace Go.Proofs.YtcholkmididfmaaGreatDoor
open Go.RowKit Go.Am Go.Sy
set_option linter.unusedVariables false
set_option linter.unusedSimpArgs false
theorem wi_e (n lo hi : Int) : Go.Sy.Tree.holds (entryX F (lookC []) 200 Tryz.f85 b85 ⟨[],.b (wi n lo hi),[]⟩ [.i .i64 n,.i .i64 lo,.i .i64 hi]) = ( (decide (n ≥ lo) = true → decide (n ≤ hi) = wi n lo hi ∧ True) ∧
 (decide (n ≥ lo) = false → false = wi n lo hi ∧ True)) := by kernel_rfl
theorem wr_e (w : Wk) : Go.Sy.Tree.holds (entryX F (lookC []) 200 Tryz.f150 b48 ⟨[(2,wrC w)],.b (writesB w.o),[]⟩ [.fp (enc9 w)]) = ( ∃ (s : Nat),w.o = w.o ∧ (↑w.o.length : Int) = (↑w.o.length : Int) ∧ (0 : Int) = (↑s
 : Int) ∧ (s ≤ w.o.length ∧ ∀ (y : Instr),y ∈ List.take s w.o → (y.b == 0) = false) ∧ True) := by kernel_rfl
theorem wr_2 (w : Wk) (k : Nat) : Go.Sy.Tree.holds (cutVC F (lookC []) 200 Tryz.f150 b48 ⟨[(2,wrC w)],.b (writesB w.o),[]⟩ 2 (wrC w) k) = ( (decide ((↑k : Int) < (↑w.o.length : Int)) = true → ((0 : Int) ≤ (↑k : Int) ∧
 (↑k : Int) < (↑w.o.length : Int)) ∧ (((at2 w.o (↑k : Int)).b == 0) = true → true = writesB w.o ∧ True) ∧ (((at2 w.o (↑k : Int)).b == 0) = false → ∃ (s : Nat),w.o = w.o ∧ (↑w.o.length : Int) = (↑w.o.length : Int) ∧
 IntKind.i64.wrap ((↑k : Int) + 1) = (↑s : Int) ∧ (s ≤ w.o.length ∧ ∀ (y : Instr),y ∈ List.take s w.o → (y.b == 0) = false) ∧ w.o.length - s < w.o.length - k ∧ True)) ∧ (decide ((↑k : Int) < (↑w.o.length : Int)) = false
 → false = writesB w.o ∧ True)) := by kernel_rfl
theorem wa_e (w : Wk) (x : Instr) : Go.Sy.Tree.holds (entryX F (lookC []) 200 Tryz.f151 b49 ⟨[],.i .i64 (waitF w.conds w.o x),[]⟩ [.fp (enc9 w),.agg (enc2 x)]) = ( (decide (x.a ≥ (↑w.conds.length : Int)) = true → (9 :
 Int) = waitF w.conds w.o x ∧ True) ∧ (decide (x.a ≥ (↑w.conds.length : Int)) = false → (((↑w.o.length : Int) != 1) = true → (6 : Int) = waitF w.conds w.o x ∧ True) ∧ (((↑w.o.length : Int) != 1) = false → ((0 : Int) ≤ 0 ∧
 (0 : Int) < (↑w.o.length : Int)) ∧ ((0 : Int) ≤ x.a ∧ x.a < (↑w.conds.length : Int)) ∧ (((at2 w.o (0 : Int)).a != at0 w.conds x.a) = true → (6 : Int) = waitF w.conds w.o x ∧ True) ∧ (((at2 w.o (0 : Int)).a != at0 w.conds
 x.a) = false → ((0 : Int) ≤ 0 ∧ (0 : Int) < (↑w.o.length : Int)) ∧ (((at2 w.o (0 : Int)).b == 1) = true → (7 : Int) = waitF w.conds w.o x ∧ True) ∧ (((at2 w.o (0 : Int)).b == 1) = false → (0 : Int) = waitF w.conds w.o x
 ∧ True))))) := by kernel_rfl
theorem wk_e (w : Wk) (x : Instr) : Go.Sy.Tree.holds (entryX F (lookC []) 200 Tryz.f152 b50 ⟨[(4,wkC w x)],.i .i64 (wakeF w.conds w.o x),[]⟩ [.fp (enc9 w),.agg (enc2 x)]) = ( (decide (x.a ≥ (↑w.conds.length : Int)) =
 true → (9 : Int) = wakeF w.conds w.o x ∧ True) ∧ (decide (x.a ≥ (↑w.conds.length : Int)) = false → ∃ (s : Nat),w.engine = w.engine ∧ w.clock = w.clock ∧ w.stripes = w.stripes ∧ w.reads = w.reads ∧ w.writes = w.writes ∧
 w.retry = w.retry ∧ w.fuel = w.fuel ∧ w.most = w.most ∧ w.init = w.init ∧ w.locks = w.locks ∧ w.conds = w.conds ∧ w.progs = w.progs ∧ w.o = w.o ∧ w.top = w.top ∧ w.loops = w.loops ∧ x.op = x.op ∧ x.a = x.a ∧ x.b = x.b ∧
 x.c = x.c ∧ x.n = x.n ∧ w.o = w.o ∧ (↑w.o.length : Int) = (↑w.o.length : Int) ∧ (0 : Int) = (↑s : Int) ∧ (s ≤ w.o.length ∧ x.a < (↑w.conds.length : Int) ∧ ∀ (y : Instr),y ∈ List.take s w.o → (y.a == at0 w.conds x.a) =
 false) ∧ True)) := by kernel_rfl
theorem wk_4 (w : Wk) (x : Instr) (k : Nat) : Go.Sy.Tree.holds (cutVC F (lookC []) 200 Tryz.f152 b50 ⟨[(4,wkC w x)],.i .i64 (wakeF w.conds w.o x),[]⟩ 4 (wkC w x) k) = ( (decide ((↑k : Int) < (↑w.o.length : Int)) = true
 → ((0 : Int) ≤ (↑k : Int) ∧ (↑k : Int) < (↑w.o.length : Int)) ∧ ((0 : Int) ≤ x.a ∧ x.a < (↑w.conds.length : Int)) ∧ (((at2 w.o (↑k : Int)).a != at0 w.conds x.a) = true → ∃ (s : Nat),w.engine = w.engine ∧ w.clock =
 w.clock ∧ w.stripes = w.stripes ∧ w.reads = w.reads ∧ w.writes = w.writes ∧ w.retry = w.retry ∧ w.fuel = w.fuel ∧ w.most = w.most ∧ w.init = w.init ∧ w.locks = w.locks ∧ w.conds = w.conds ∧ w.progs = w.progs ∧ w.o = w.o
 ∧ w.top = w.top ∧ w.loops = w.loops ∧ x.op = x.op ∧ x.a = x.a ∧ x.b = x.b ∧ x.c = x.c ∧ x.n = x.n ∧ w.o = w.o ∧ (↑w.o.length : Int) = (↑w.o.length : Int) ∧ IntKind.i64.wrap ((↑k : Int) + 1) = (↑s : Int) ∧ (s ≤ w.o.length
 ∧ x.a < (↑w.conds.length : Int) ∧ ∀ (y : Instr),y ∈ List.take s w.o → (y.a == at0 w.conds x.a) = false) ∧ w.o.length - s < w.o.length - k ∧ True) ∧ (((at2 w.o (↑k : Int)).a != at0 w.conds x.a) = false → (((at2 w.o (↑k :
 Int)).b == 1) = true → (7 : Int) = wakeF w.conds w.o x ∧ True) ∧ (((at2 w.o (↑k : Int)).b == 1) = false → (0 : Int) = wakeF w.conds w.o x ∧ True))) ∧ (decide ((↑k : Int) < (↑w.o.length : Int)) = false → (6 : Int) = wakeF
 w.conds w.o x ∧ True)) := by kernel_rfl
theorem pg_e (c : Config) (t : Nat) : Go.Sy.Tree.holds (entryX F (lookC g1) 300 Tryz.f87 b16 (pgF c t) [.agg (enc4 c),.i .i64 t]) = ( wiD.pre ((↑t : Int),(0 : Int),IntKind.i64.wrap ((↑c.progs.length : Int) - 1),()) ∧
 ((!wi (↑t : Int) (0 : Int) (IntKind.i64.wrap ((↑c.progs.length : Int) - 1))) = true → Stuck "no") ∧ ((!wi (↑t : Int) (0 : Int) (IntKind.i64.wrap ((↑c.progs.length : Int) - 1))) = false → ((0 : Int) ≤ (↑t : Int) ∧ (↑t :
 Int) < (↑c.progs.length : Int)) ∧ (decide ((↑(at3 c.progs (↑t : Int)).length : Int) > 48) = true → Stuck "no") ∧ (decide ((↑(at3 c.progs (↑t : Int)).length : Int) > 48) = false → ∃ (s : Nat),(↑t : Int) = (↑t : Int) ∧
 c.engine = c.engine ∧ c.clock = c.clock ∧ c.stripes = c.stripes ∧ c.reads = c.reads ∧ c.writes = c.writes ∧ c.retry = c.retry ∧ c.fuel = c.fuel ∧ c.most = c.most ∧ c.init = c.init ∧ c.locks = c.locks ∧ c.conds = c.conds
 ∧ c.progs = c.progs ∧ at3 c.progs (↑t : Int) = at3 c.progs (↑t : Int) ∧ at3 c.progs (↑t : Int) = at3 c.progs (↑t : Int) ∧ (↑(at3 c.progs (↑t : Int)).length : Int) = (↑(at3 c.progs (↑t : Int)).length : Int) ∧ (0 : Int) =
 (↑s : Int) ∧ (s ≤ (at3 c.progs (↑t : Int)).length ∧ (at3 c.progs (↑t : Int)).length ≤ 48 ∧ mayGo (at3 c.progs (↑t : Int)) ((at3 c.progs (↑t : Int)).length - s) s = mayGo (at3 c.progs (↑t : Int)) (at3 c.progs (↑t :
 Int)).length (0 : Nat) ∧ (∀ (k : Nat),k < s → mayB (at2 (at3 c.progs (↑t : Int)) (↑k : Int)) = true) ∧ pwC c t = ((0 : Int),(0 : Int),(0 : Int))) ∧ True))) := by kernel_rfl
theorem pg_7 (c : Config) (t : Nat) (i : Nat) : Go.Sy.Tree.holds (cutVC F (lookC g1) 300 Tryz.f87 b16 (pgF c t) 7 (pgC7 c t) i) = ( (decide ((↑i : Int) < (↑(at3 c.progs (↑t : Int)).length : Int)) = true → ((0 : Int) ≤ (↑i
 : Int) ∧ (↑i : Int) < (↑(at3 c.progs (↑t : Int)).length : Int)) ∧ mayD.pre (Instr.mk (at2 (at3 c.progs (↑t : Int)) (↑i : Int)).op (at2 (at3 c.progs (↑t : Int)) (↑i : Int)).a (at2 (at3 c.progs (↑t : Int)) (↑i : Int)).b
 (at2 (at3 c.progs (↑t : Int)) (↑i : Int)).c (at2 (at3 c.progs (↑t : Int)) (↑i : Int)).n,()) ∧ ((!mayB (Instr.mk (at2 (at3 c.progs (↑t : Int)) (↑i : Int)).op (at2 (at3 c.progs (↑t : Int)) (↑i : Int)).a (at2 (at3 c.progs
 (↑t : Int)) (↑i : Int)).b (at2 (at3 c.progs (↑t : Int)) (↑i : Int)).c (at2 (at3 c.progs (↑t : Int)) (↑i : Int)).n)) = true → Stuck "no") ∧ ((!mayB (Instr.mk (at2 (at3 c.progs (↑t : Int)) (↑i : Int)).op (at2 (at3 c.progs
 (↑t : Int)) (↑i : Int)).a (at2 (at3 c.progs (↑t : Int)) (↑i : Int)).b (at2 (at3 c.progs (↑t : Int)) (↑i : Int)).c (at2 (at3 c.progs (↑t : Int)) (↑i : Int)).n)) = false → ∃ (s : Nat),(↑t : Int) = (↑t : Int) ∧ c.engine =
 c.engine ∧ c.clock = c.clock ∧ c.stripes = c.stripes ∧ c.reads = c.reads ∧ c.writes = c.writes ∧ c.retry = c.retry ∧ c.fuel = c.fuel ∧ c.most = c.most ∧ c.init = c.init ∧ c.locks = c.locks ∧ c.conds = c.conds ∧ c.progs =
 c.progs ∧ at3 c.progs (↑t : Int) = at3 c.progs (↑t : Int) ∧ at3 c.progs (↑t : Int) = at3 c.progs (↑t : Int) ∧ (↑(at3 c.progs (↑t : Int)).length : Int) = (↑(at3 c.progs (↑t : Int)).length : Int) ∧ IntKind.i64.wrap ((↑i :
 Int) + 1) = (↑s : Int) ∧ (s ≤ (at3 c.progs (↑t : Int)).length ∧ (at3 c.progs (↑t : Int)).length ≤ 48 ∧ mayGo (at3 c.progs (↑t : Int)) ((at3 c.progs (↑t : Int)).length - s) s = mayGo (at3 c.progs (↑t : Int)) (at3 c.progs
 (↑t : Int)).length (0 : Nat) ∧ (∀ (k : Nat),k < s → mayB (at2 (at3 c.progs (↑t : Int)) (↑k : Int)) = true) ∧ pwC c t = ((0 : Int),(0 : Int),(0 : Int))) ∧ (200 : Nat) - s < 200 - i ∧ True)) ∧ (decide ((↑i : Int) <
 (↑(at3 c.progs (↑t : Int)).length : Int)) = false → mtD.pre (at3 c.progs (↑t : Int),()) ∧ (decide ((matesR (at3 c.progs (↑t : Int))).snd ≥ (0 : Int)) = true → Stuck "no") ∧ (decide ((matesR (at3 c.progs (↑t : Int))).snd
 ≥ (0 : Int)) = false → ∃ (s : PgS),(↑t : Int) = (↑t : Int) ∧ c.engine = c.engine ∧ c.clock = c.clock ∧ c.stripes = c.stripes ∧ c.reads = c.reads ∧ c.writes = c.writes ∧ c.retry = c.retry ∧ c.fuel = c.fuel ∧ c.most =
 c.most ∧ c.init = c.init ∧ c.locks = c.locks ∧ c.conds = c.conds ∧ c.progs = c.progs ∧ [] = s.w.o ∧ (0 : Int) = s.w.top ∧ (0 : Int) = s.w.loops ∧ at3 c.progs (↑t : Int) = at3 c.progs (↑t : Int) ∧ (↑(at3 c.progs (↑t :
 Int)).length : Int) = (↑(at3 c.progs (↑t : Int)).length : Int) ∧ (0 : Int) = (↑s.i : Int) ∧ pgI c t (at3 c.progs (↑t : Int)) s ∧ (100 : Nat) - s.i < 200 - i ∧ True))) := by kernel_rfl
theorem pg_17 (c : Config) (t : Nat) (i : Nat) (o : List Instr) (tp lp : Int) (q : MS) : Go.Sy.Tree.holds (cutVC F (lookC g1) 300 Tryz.f87 b16 (pgF c t) 17 (pgC17 c t) ⟨i,⟨o,tp,lp⟩,q⟩) = ( (decide ((↑i : Int) < (↑(at3
 c.progs (↑t : Int)).length : Int)) = true → ((0 : Int) ≤ (↑i : Int) ∧ (↑i : Int) < (↑(at3 c.progs (↑t : Int)).length : Int)) ∧ (((at2 (at3 c.progs (↑t : Int)) (↑i : Int)).op == 13) = true → (decide ((at2 (at3 c.progs (↑t
 : Int)) (↑i : Int)).a ≥ (↑c.locks.length : Int)) = true → Stuck "no") ∧ (decide ((at2 (at3 c.progs (↑t : Int)) (↑i : Int)).a ≥ (↑c.locks.length : Int)) = false → (((at2 (at3 c.progs (↑t : Int)) (↑i : Int)).b == 1) = true
 → ((0 : Int) ≤ (at2 (at3 c.progs (↑t : Int)) (↑i : Int)).a ∧ (at2 (at3 c.progs (↑t : Int)) (↑i : Int)).a < (↑c.locks.length : Int)) ∧ (((at1 c.locks (at2 (at3 c.progs (↑t : Int)) (↑i : Int)).a).kind != 3) = true → Stuck
 "no") ∧ (((at1 c.locks (at2 (at3 c.progs (↑t : Int)) (↑i : Int)).a).kind != 3) = false → (((↑o.length : Int) == 0) = true → (o.length + [Instr.mk (at2 (at3 c.progs (↑t : Int)) (↑i : Int)).op (at2 (at3 c.progs (↑t : Int))
 (↑i : Int)).a (at2 (at3 c.progs (↑t : Int)) (↑i : Int)).b (at2 (at3 c.progs (↑t : Int)) (↑i : Int)).c (at2 (at3 c.progs (↑t : Int)) (↑i : Int)).n].length) * 40 ≤ 140737488355328 ∧ ∃ (s : PgS),(↑t : Int) = (↑t : Int) ∧
 c.engine = c.engine ∧ c.clock = c.clock ∧ c.stripes = c.stripes ∧ c.reads = c.reads ∧ c.writes = c.writes ∧ c.retry = c.retry ∧ c.fuel = c.fuel ∧ c.most = c.most ∧ c.init = c.init ∧ c.locks = c.locks ∧ c.conds = c.conds
 ∧ c.progs = c.progs ∧ o ++ [Instr.mk (at2 (at3 c.progs (↑t : Int)) (↑i : Int)).op (at2 (at3 c.progs (↑t : Int)) (↑i : Int)).a (at2 (at3 c.progs (↑t : Int)) (↑i : Int)).b (at2 (at3 c.progs (↑t : Int)) (↑i : Int)).c (at2
 (at3 c.progs (↑t : Int)) (↑i : Int)).n] = s.w.o ∧ (bif true then if (-1 : Int) < (at2 (at3 c.progs (↑t : Int)) (↑i : Int)).a then (at2 (at3 c.progs (↑t : Int)) (↑i : Int)).a else (-1 : Int) else if (at2 (at3 c.progs (↑t
 : Int)) (↑i : Int)).a < (-1 : Int) then (at2 (at3 c.progs (↑t : Int)) (↑i : Int)).a else (-1 : Int)) = s.w.top ∧ (0 : Int) = s.w.loops ∧ at3 c.progs (↑t : Int) = at3 c.progs (↑t : Int) ∧ (↑(at3 c.progs (↑t : Int)).length
 : Int) = (↑(at3 c.progs (↑t : Int)).length : Int) ∧ IntKind.i64.wrap ((↑i : Int) + 1) = (↑s.i : Int) ∧ pgI c t (at3 c.progs (↑t : Int)) s ∧ (100 : Nat) - s.i < 100 - i ∧ True) ∧ (((↑o.length : Int) == 0) = false →
 (decide ((↑o.length : Int) ≥ (3 : Int)) = true → Stuck "no") ∧ (decide ((↑o.length : Int) ≥ (3 : Int)) = false → (decide (lp > 0) = true → Stuck "no") ∧ (decide (lp > 0) = false → (decide ((at2 (at3 c.progs (↑t : Int))
 (↑i : Int)).a ≤ tp) = true → Stuck "no") ∧ (decide ((at2 (at3 c.progs (↑t : Int)) (↑i : Int)).a ≤ tp) = false → (o.length + [Instr.mk (at2 (at3 c.progs (↑t : Int)) (↑i : Int)).op (at2 (at3 c.progs (↑t : Int)) (↑i :
 Int)).a (at2 (at3 c.progs (↑t : Int)) (↑i : Int)).b (at2 (at3 c.progs (↑t : Int)) (↑i : Int)).c (at2 (at3 c.progs (↑t : Int)) (↑i : Int)).n].length) * 40 ≤ 140737488355328 ∧ ∃ (s : PgS),(↑t : Int) = (↑t : Int) ∧
 c.engine = c.engine ∧ c.clock = c.clock ∧ c.stripes = c.stripes ∧ c.reads = c.reads ∧ c.writes = c.writes ∧ c.retry = c.retry ∧ c.fuel = c.fuel ∧ c.most = c.most ∧ c.init = c.init ∧ c.locks = c.locks ∧ c.conds = c.conds
 ∧ c.progs = c.progs ∧ o ++ [Instr.mk (at2 (at3 c.progs (↑t : Int)) (↑i : Int)).op (at2 (at3 c.progs (↑t : Int)) (↑i : Int)).a (at2 (at3 c.progs (↑t : Int)) (↑i : Int)).b (at2 (at3 c.progs (↑t : Int)) (↑i : Int)).c (at2
 (at3 c.progs (↑t : Int)) (↑i : Int)).n] = s.w.o ∧ (bif true then if tp < (at2 (at3 c.progs (↑t : Int)) (↑i : Int)).a then (at2 (at3 c.progs (↑t : Int)) (↑i : Int)).a else tp else if (at2 (at3 c.progs (↑t : Int)) (↑i :
 Int)).a < tp then (at2 (at3 c.progs (↑t : Int)) (↑i : Int)).a else tp) = s.w.top ∧ lp = s.w.loops ∧ at3 c.progs (↑t : Int) = at3 c.progs (↑t : Int) ∧ (↑(at3 c.progs (↑t : Int)).length : Int) = (↑(at3 c.progs (↑t :
 Int)).length : Int) ∧ IntKind.i64.wrap ((↑i : Int) + 1) = (↑s.i : Int) ∧ pgI c t (at3 c.progs (↑t : Int)) s ∧ (100 : Nat) - s.i < 100 - i ∧ True)))))) ∧ (((at2 (at3 c.progs (↑t : Int)) (↑i : Int)).b == 1) = false →
 (((↑o.length : Int) == 0) = true → (o.length + [Instr.mk (at2 (at3 c.progs (↑t : Int)) (↑i : Int)).op (at2 (at3 c.progs (↑t : Int)) (↑i : Int)).a (at2 (at3 c.progs (↑t : Int)) (↑i : Int)).b (at2 (at3 c.progs (↑t : Int))
 (↑i : Int)).c (at2 (at3 c.progs (↑t : Int)) (↑i : Int)).n].length) * 40 ≤ 140737488355328 ∧ ∃ (s : PgS),(↑t : Int) = (↑t : Int) ∧ c.engine = c.engine ∧ c.clock = c.clock ∧ c.stripes = c.stripes ∧ c.reads = c.reads ∧
 c.writes = c.writes ∧ c.retry = c.retry ∧ c.fuel = c.fuel ∧ c.most = c.most ∧ c.init = c.init ∧ c.locks = c.locks ∧ c.conds = c.conds ∧ c.progs = c.progs ∧ o ++ [Instr.mk (at2 (at3 c.progs (↑t : Int)) (↑i : Int)).op (at2
 (at3 c.progs (↑t : Int)) (↑i : Int)).a (at2 (at3 c.progs (↑t : Int)) (↑i : Int)).b (at2 (at3 c.progs (↑t : Int)) (↑i : Int)).c (at2 (at3 c.progs (↑t : Int)) (↑i : Int)).n] = s.w.o ∧ (bif true then if (-1 : Int) < (at2
 (at3 c.progs (↑t : Int)) (↑i : Int)).a then (at2 (at3 c.progs (↑t : Int)) (↑i : Int)).a else (-1 : Int) else if (at2 (at3 c.progs (↑t : Int)) (↑i : Int)).a < (-1 : Int) then (at2 (at3 c.progs (↑t : Int)) (↑i : Int)).a
 else (-1 : Int)) = s.w.top ∧ (0 : Int) = s.w.loops ∧ at3 c.progs (↑t : Int) = at3 c.progs (↑t : Int) ∧ (↑(at3 c.progs (↑t : Int)).length : Int) = (↑(at3 c.progs (↑t : Int)).length : Int) ∧ IntKind.i64.wrap ((↑i : Int) +
 1) = (↑s.i : Int) ∧ pgI c t (at3 c.progs (↑t : Int)) s ∧ (100 : Nat) - s.i < 100 - i ∧ True) ∧ (((↑o.length : Int) == 0) = false → (decide ((↑o.length : Int) ≥ (3 : Int)) = true → Stuck "no") ∧ (decide ((↑o.length : Int)
 ≥ (3 : Int)) = false → (decide (lp > 0) = true → Stuck "no") ∧ (decide (lp > 0) = false → (decide ((at2 (at3 c.progs (↑t : Int)) (↑i : Int)).a ≤ tp) = true → Stuck "no") ∧ (decide ((at2 (at3 c.progs (↑t : Int)) (↑i :
 Int)).a ≤ tp) = false → (o.length + [Instr.mk (at2 (at3 c.progs (↑t : Int)) (↑i : Int)).op (at2 (at3 c.progs (↑t : Int)) (↑i : Int)).a (at2 (at3 c.progs (↑t : Int)) (↑i : Int)).b (at2 (at3 c.progs (↑t : Int)) (↑i :
 Int)).c (at2 (at3 c.progs (↑t : Int)) (↑i : Int)).n].length) * 40 ≤ 140737488355328 ∧ ∃ (s : PgS),(↑t : Int) = (↑t : Int) ∧ c.engine = c.engine ∧ c.clock = c.clock ∧ c.stripes = c.stripes ∧ c.reads = c.reads ∧ c.writes
 = c.writes ∧ c.retry = c.retry ∧ c.fuel = c.fuel ∧ c.most = c.most ∧ c.init = c.init ∧ c.locks = c.locks ∧ c.conds = c.conds ∧ c.progs = c.progs ∧ o ++ [Instr.mk (at2 (at3 c.progs (↑t : Int)) (↑i : Int)).op (at2 (at3
 c.progs (↑t : Int)) (↑i : Int)).a (at2 (at3 c.progs (↑t : Int)) (↑i : Int)).b (at2 (at3 c.progs (↑t : Int)) (↑i : Int)).c (at2 (at3 c.progs (↑t : Int)) (↑i : Int)).n] = s.w.o ∧ (bif true then if tp < (at2 (at3 c.progs
 (↑t : Int)) (↑i : Int)).a then (at2 (at3 c.progs (↑t : Int)) (↑i : Int)).a else tp else if (at2 (at3 c.progs (↑t : Int)) (↑i : Int)).a < tp then (at2 (at3 c.progs (↑t : Int)) (↑i : Int)).a else tp) = s.w.top ∧ lp =
 s.w.loops ∧ at3 c.progs (↑t : Int) = at3 c.progs (↑t : Int) ∧ (↑(at3 c.progs (↑t : Int)).length : Int) = (↑(at3 c.progs (↑t : Int)).length : Int) ∧ IntKind.i64.wrap ((↑i : Int) + 1) = (↑s.i : Int) ∧ pgI c t (at3 c.progs
 (↑t : Int)) s ∧ (100 : Nat) - s.i < 100 - i ∧ True))))))) ∧ (((at2 (at3 c.progs (↑t : Int)) (↑i : Int)).op == 13) = false → (((at2 (at3 c.progs (↑t : Int)) (↑i : Int)).op == 14) = true → ((0 : Int) ≤ 0 ∧ (0 : Int) ≤
 IntKind.i64.wrap ((↑o.length : Int) - 1) ∧ IntKind.i64.wrap ((↑o.length : Int) - 1) ≤ (↑o.length : Int)) ∧ ∃ (s : PgS),(↑t : Int) = (↑t : Int) ∧ c.engine = c.engine ∧ c.clock = c.clock ∧ c.stripes = c.stripes ∧ c.reads
 = c.reads ∧ c.writes = c.writes ∧ c.retry = c.retry ∧ c.fuel = c.fuel ∧ c.most = c.most ∧ c.init = c.init ∧ c.locks = c.locks ∧ c.conds = c.conds ∧ c.progs = c.progs ∧ List.take ((IntKind.i64.wrap ((↑o.length : Int) -
 1)).toNat - 0) (List.drop (0 : Nat) o) = s.w.o ∧ tp = s.w.top ∧ lp = s.w.loops ∧ at3 c.progs (↑t : Int) = at3 c.progs (↑t : Int) ∧ (↑(at3 c.progs (↑t : Int)).length : Int) = (↑(at3 c.progs (↑t : Int)).length : Int) ∧
 IntKind.i64.wrap ((↑i : Int) + 1) = (↑s.i : Int) ∧ pgI c t (at3 c.progs (↑t : Int)) s ∧ (100 : Nat) - s.i < 100 - i ∧ True) ∧ (((at2 (at3 c.progs (↑t : Int)) (↑i : Int)).op == 14) = false → (((at2 (at3 c.progs (↑t :
 Int)) (↑i : Int)).op == 21) = true → ∃ (s : PgS),(↑t : Int) = (↑t : Int) ∧ c.engine = c.engine ∧ c.clock = c.clock ∧ c.stripes = c.stripes ∧ c.reads = c.reads ∧ c.writes = c.writes ∧ c.retry = c.retry ∧ c.fuel = c.fuel
 ∧ c.most = c.most ∧ c.init = c.init ∧ c.locks = c.locks ∧ c.conds = c.conds ∧ c.progs = c.progs ∧ o = s.w.o ∧ tp = s.w.top ∧ IntKind.i64.wrap (lp + 1) = s.w.loops ∧ at3 c.progs (↑t : Int) = at3 c.progs (↑t : Int) ∧
 (↑(at3 c.progs (↑t : Int)).length : Int) = (↑(at3 c.progs (↑t : Int)).length : Int) ∧ IntKind.i64.wrap ((↑i : Int) + 1) = (↑s.i : Int) ∧ pgI c t (at3 c.progs (↑t : Int)) s ∧ (100 : Nat) - s.i < 100 - i ∧ True) ∧ (((at2
 (at3 c.progs (↑t : Int)) (↑i : Int)).op == 21) = false → (((at2 (at3 c.progs (↑t : Int)) (↑i : Int)).op == 22) = true → ∃ (s : PgS),(↑t : Int) = (↑t : Int) ∧ c.engine = c.engine ∧ c.clock = c.clock ∧ c.stripes =
 c.stripes ∧ c.reads = c.reads ∧ c.writes = c.writes ∧ c.retry = c.retry ∧ c.fuel = c.fuel ∧ c.most = c.most ∧ c.init = c.init ∧ c.locks = c.locks ∧ c.conds = c.conds ∧ c.progs = c.progs ∧ o = s.w.o ∧ tp = s.w.top ∧
 IntKind.i64.wrap (lp - 1) = s.w.loops ∧ at3 c.progs (↑t : Int) = at3 c.progs (↑t : Int) ∧ (↑(at3 c.progs (↑t : Int)).length : Int) = (↑(at3 c.progs (↑t : Int)).length : Int) ∧ IntKind.i64.wrap ((↑i : Int) + 1) = (↑s.i :
 Int) ∧ pgI c t (at3 c.progs (↑t : Int)) s ∧ (100 : Nat) - s.i < 100 - i ∧ True) ∧ (((at2 (at3 c.progs (↑t : Int)) (↑i : Int)).op == 22) = false → (((at2 (at3 c.progs (↑t : Int)) (↑i : Int)).op == 9) = true → (decide
 ((↑o.length : Int) > 0) = true → wrD.pre (Wk.mk c.engine c.clock c.stripes c.reads c.writes c.retry c.fuel c.most c.init c.locks c.conds c.progs o tp lp,()) ∧ ((!writesB o) = true → Stuck "no") ∧ ((!writesB o) = false →
 ∃ (s : PgS),(↑t : Int) = (↑t : Int) ∧ c.engine = c.engine ∧ c.clock = c.clock ∧ c.stripes = c.stripes ∧ c.reads = c.reads ∧ c.writes = c.writes ∧ c.retry = c.retry ∧ c.fuel = c.fuel ∧ c.most = c.most ∧ c.init = c.init ∧
 c.locks = c.locks ∧ c.conds = c.conds ∧ c.progs = c.progs ∧ o = s.w.o ∧ tp = s.w.top ∧ lp = s.w.loops ∧ at3 c.progs (↑t : Int) = at3 c.progs (↑t : Int) ∧ (↑(at3 c.progs (↑t : Int)).length : Int) = (↑(at3 c.progs (↑t :
 Int)).length : Int) ∧ IntKind.i64.wrap ((↑i : Int) + 1) = (↑s.i : Int) ∧ pgI c t (at3 c.progs (↑t : Int)) s ∧ (100 : Nat) - s.i < 100 - i ∧ True)) ∧ (decide ((↑o.length : Int) > 0) = false → ∃ (s : PgS),(↑t : Int) = (↑t
 : Int) ∧ c.engine = c.engine ∧ c.clock = c.clock ∧ c.stripes = c.stripes ∧ c.reads = c.reads ∧ c.writes = c.writes ∧ c.retry = c.retry ∧ c.fuel = c.fuel ∧ c.most = c.most ∧ c.init = c.init ∧ c.locks = c.locks ∧ c.conds =
 c.conds ∧ c.progs = c.progs ∧ o = s.w.o ∧ tp = s.w.top ∧ lp = s.w.loops ∧ at3 c.progs (↑t : Int) = at3 c.progs (↑t : Int) ∧ (↑(at3 c.progs (↑t : Int)).length : Int) = (↑(at3 c.progs (↑t : Int)).length : Int) ∧
 IntKind.i64.wrap ((↑i : Int) + 1) = (↑s.i : Int) ∧ pgI c t (at3 c.progs (↑t : Int)) s ∧ (100 : Nat) - s.i < 100 - i ∧ True)) ∧ (((at2 (at3 c.progs (↑t : Int)) (↑i : Int)).op == 9) = false → (((at2 (at3 c.progs (↑t :
 Int)) (↑i : Int)).op == 10) = true → wrD.pre (Wk.mk c.engine c.clock c.stripes c.reads c.writes c.retry c.fuel c.most c.init c.locks c.conds c.progs o tp lp,()) ∧ ((!writesB o) = true → Stuck "no") ∧ ((!writesB o) =
 false → ∃ (s : PgS),(↑t : Int) = (↑t : Int) ∧ c.engine = c.engine ∧ c.clock = c.clock ∧ c.stripes = c.stripes ∧ c.reads = c.reads ∧ c.writes = c.writes ∧ c.retry = c.retry ∧ c.fuel = c.fuel ∧ c.most = c.most ∧ c.init =
 c.init ∧ c.locks = c.locks ∧ c.conds = c.conds ∧ c.progs = c.progs ∧ o = s.w.o ∧ tp = s.w.top ∧ lp = s.w.loops ∧ at3 c.progs (↑t : Int) = at3 c.progs (↑t : Int) ∧ (↑(at3 c.progs (↑t : Int)).length : Int) = (↑(at3 c.progs
 (↑t : Int)).length : Int) ∧ IntKind.i64.wrap ((↑i : Int) + 1) = (↑s.i : Int) ∧ pgI c t (at3 c.progs (↑t : Int)) s ∧ (100 : Nat) - s.i < 100 - i ∧ True)) ∧ (((at2 (at3 c.progs (↑t : Int)) (↑i : Int)).op == 10) = false →
 (((at2 (at3 c.progs (↑t : Int)) (↑i : Int)).op == 11) = true → wrD.pre (Wk.mk c.engine c.clock c.stripes c.reads c.writes c.retry c.fuel c.most c.init c.locks c.conds c.progs o tp lp,()) ∧ ((!writesB o) = true → Stuck
 "no") ∧ ((!writesB o) = false → ∃ (s : PgS),(↑t : Int) = (↑t : Int) ∧ c.engine = c.engine ∧ c.clock = c.clock ∧ c.stripes = c.stripes ∧ c.reads = c.reads ∧ c.writes = c.writes ∧ c.retry = c.retry ∧ c.fuel = c.fuel ∧
 c.most = c.most ∧ c.init = c.init ∧ c.locks = c.locks ∧ c.conds = c.conds ∧ c.progs = c.progs ∧ o = s.w.o ∧ tp = s.w.top ∧ lp = s.w.loops ∧ at3 c.progs (↑t : Int) = at3 c.progs (↑t : Int) ∧ (↑(at3 c.progs (↑t :
 Int)).length : Int) = (↑(at3 c.progs (↑t : Int)).length : Int) ∧ IntKind.i64.wrap ((↑i : Int) + 1) = (↑s.i : Int) ∧ pgI c t (at3 c.progs (↑t : Int)) s ∧ (100 : Nat) - s.i < 100 - i ∧ True)) ∧ (((at2 (at3 c.progs (↑t :
 Int)) (↑i : Int)).op == 11) = false → (((at2 (at3 c.progs (↑t : Int)) (↑i : Int)).op == 15) = true → waD.pre (Wk.mk c.engine c.clock c.stripes c.reads c.writes c.retry c.fuel c.most c.init c.locks c.conds c.progs o tp
 lp,Instr.mk (at2 (at3 c.progs (↑t : Int)) (↑i : Int)).op (at2 (at3 c.progs (↑t : Int)) (↑i : Int)).a (at2 (at3 c.progs (↑t : Int)) (↑i : Int)).b (at2 (at3 c.progs (↑t : Int)) (↑i : Int)).c (at2 (at3 c.progs (↑t : Int))
 (↑i : Int)).n,()) ∧ ((waitF c.conds o (Instr.mk (at2 (at3 c.progs (↑t : Int)) (↑i : Int)).op (at2 (at3 c.progs (↑t : Int)) (↑i : Int)).a (at2 (at3 c.progs (↑t : Int)) (↑i : Int)).b (at2 (at3 c.progs (↑t : Int)) (↑i :
 Int)).c (at2 (at3 c.progs (↑t : Int)) (↑i : Int)).n) != 0) = true → Stuck "no") ∧ ((waitF c.conds o (Instr.mk (at2 (at3 c.progs (↑t : Int)) (↑i : Int)).op (at2 (at3 c.progs (↑t : Int)) (↑i : Int)).a (at2 (at3 c.progs (↑t
 : Int)) (↑i : Int)).b (at2 (at3 c.progs (↑t : Int)) (↑i : Int)).c (at2 (at3 c.progs (↑t : Int)) (↑i : Int)).n) != 0) = false → ∃ (s : PgS),(↑t : Int) = (↑t : Int) ∧ c.engine = c.engine ∧ c.clock = c.clock ∧ c.stripes =
 c.stripes ∧ c.reads = c.reads ∧ c.writes = c.writes ∧ c.retry = c.retry ∧ c.fuel = c.fuel ∧ c.most = c.most ∧ c.init = c.init ∧ c.locks = c.locks ∧ c.conds = c.conds ∧ c.progs = c.progs ∧ o = s.w.o ∧ tp = s.w.top ∧ lp =
 s.w.loops ∧ at3 c.progs (↑t : Int) = at3 c.progs (↑t : Int) ∧ (↑(at3 c.progs (↑t : Int)).length : Int) = (↑(at3 c.progs (↑t : Int)).length : Int) ∧ IntKind.i64.wrap ((↑i : Int) + 1) = (↑s.i : Int) ∧ pgI c t (at3 c.progs
 (↑t : Int)) s ∧ (100 : Nat) - s.i < 100 - i ∧ True)) ∧ (((at2 (at3 c.progs (↑t : Int)) (↑i : Int)).op == 15) = false → (((at2 (at3 c.progs (↑t : Int)) (↑i : Int)).op == 16) = true → wkD.pre (Wk.mk c.engine c.clock
 c.stripes c.reads c.writes c.retry c.fuel c.most c.init c.locks c.conds c.progs o tp lp,Instr.mk (at2 (at3 c.progs (↑t : Int)) (↑i : Int)).op (at2 (at3 c.progs (↑t : Int)) (↑i : Int)).a (at2 (at3 c.progs (↑t : Int)) (↑i
 : Int)).b (at2 (at3 c.progs (↑t : Int)) (↑i : Int)).c (at2 (at3 c.progs (↑t : Int)) (↑i : Int)).n,()) ∧ ((wakeF c.conds o (Instr.mk (at2 (at3 c.progs (↑t : Int)) (↑i : Int)).op (at2 (at3 c.progs (↑t : Int)) (↑i :
 Int)).a (at2 (at3 c.progs (↑t : Int)) (↑i : Int)).b (at2 (at3 c.progs (↑t : Int)) (↑i : Int)).c (at2 (at3 c.progs (↑t : Int)) (↑i : Int)).n) != 0) = true → Stuck "no") ∧ ((wakeF c.conds o (Instr.mk (at2 (at3 c.progs (↑t
 : Int)) (↑i : Int)).op (at2 (at3 c.progs (↑t : Int)) (↑i : Int)).a (at2 (at3 c.progs (↑t : Int)) (↑i : Int)).b (at2 (at3 c.progs (↑t : Int)) (↑i : Int)).c (at2 (at3 c.progs (↑t : Int)) (↑i : Int)).n) != 0) = false → ∃ (s
 : PgS),(↑t : Int) = (↑t : Int) ∧ c.engine = c.engine ∧ c.clock = c.clock ∧ c.stripes = c.stripes ∧ c.reads = c.reads ∧ c.writes = c.writes ∧ c.retry = c.retry ∧ c.fuel = c.fuel ∧ c.most = c.most ∧ c.init = c.init ∧
 c.locks = c.locks ∧ c.conds = c.conds ∧ c.progs = c.progs ∧ o = s.w.o ∧ tp = s.w.top ∧ lp = s.w.loops ∧ at3 c.progs (↑t : Int) = at3 c.progs (↑t : Int) ∧ (↑(at3 c.progs (↑t : Int)).length : Int) = (↑(at3 c.progs (↑t :
 Int)).length : Int) ∧ IntKind.i64.wrap ((↑i : Int) + 1) = (↑s.i : Int) ∧ pgI c t (at3 c.progs (↑t : Int)) s ∧ (100 : Nat) - s.i < 100 - i ∧ True)) ∧ (((at2 (at3 c.progs (↑t : Int)) (↑i : Int)).op == 16) = false → (((at2
 (at3 c.progs (↑t : Int)) (↑i : Int)).op == 17) = true → wkD.pre (Wk.mk c.engine c.clock c.stripes c.reads c.writes c.retry c.fuel c.most c.init c.locks c.conds c.progs o tp lp,Instr.mk (at2 (at3 c.progs (↑t : Int)) (↑i
 : Int)).op (at2 (at3 c.progs (↑t : Int)) (↑i : Int)).a (at2 (at3 c.progs (↑t : Int)) (↑i : Int)).b (at2 (at3 c.progs (↑t : Int)) (↑i : Int)).c (at2 (at3 c.progs (↑t : Int)) (↑i : Int)).n,()) ∧ ((wakeF c.conds o
 (Instr.mk (at2 (at3 c.progs (↑t : Int)) (↑i : Int)).op (at2 (at3 c.progs (↑t : Int)) (↑i : Int)).a (at2 (at3 c.progs (↑t : Int)) (↑i : Int)).b (at2 (at3 c.progs (↑t : Int)) (↑i : Int)).c (at2 (at3 c.progs (↑t : Int)) (↑i
 : Int)).n) != 0) = true → Stuck "no") ∧ ((wakeF c.conds o (Instr.mk (at2 (at3 c.progs (↑t : Int)) (↑i : Int)).op (at2 (at3 c.progs (↑t : Int)) (↑i : Int)).a (at2 (at3 c.progs (↑t : Int)) (↑i : Int)).b (at2 (at3 c.progs
 (↑t : Int)) (↑i : Int)).c (at2 (at3 c.progs (↑t : Int)) (↑i : Int)).n) != 0) = false → ∃ (s : PgS),(↑t : Int) = (↑t : Int) ∧ c.engine = c.engine ∧ c.clock = c.clock ∧ c.stripes = c.stripes ∧ c.reads = c.reads ∧ c.writes
 = c.writes ∧ c.retry = c.retry ∧ c.fuel = c.fuel ∧ c.most = c.most ∧ c.init = c.init ∧ c.locks = c.locks ∧ c.conds = c.conds ∧ c.progs = c.progs ∧ o = s.w.o ∧ tp = s.w.top ∧ lp = s.w.loops ∧ at3 c.progs (↑t : Int) = at3
 c.progs (↑t : Int) ∧ (↑(at3 c.progs (↑t : Int)).length : Int) = (↑(at3 c.progs (↑t : Int)).length : Int) ∧ IntKind.i64.wrap ((↑i : Int) + 1) = (↑s.i : Int) ∧ pgI c t (at3 c.progs (↑t : Int)) s ∧ (100 : Nat) - s.i < 100 -
 i ∧ True)) ∧ (((at2 (at3 c.progs (↑t : Int)) (↑i : Int)).op == 17) = false → ∃ (s : PgS),(↑t : Int) = (↑t : Int) ∧ c.engine = c.engine ∧ c.clock = c.clock ∧ c.stripes = c.stripes ∧ c.reads = c.reads ∧ c.writes =
 c.writes ∧ c.retry = c.retry ∧ c.fuel = c.fuel ∧ c.most = c.most ∧ c.init = c.init ∧ c.locks = c.locks ∧ c.conds = c.conds ∧ c.progs = c.progs ∧ o = s.w.o ∧ tp = s.w.top ∧ lp = s.w.loops ∧ at3 c.progs (↑t : Int) = at3
 c.progs (↑t : Int) ∧ (↑(at3 c.progs (↑t : Int)).length : Int) = (↑(at3 c.progs (↑t : Int)).length : Int) ∧ IntKind.i64.wrap ((↑i : Int) + 1) = (↑s.i : Int) ∧ pgI c t (at3 c.progs (↑t : Int)) s ∧ (100 : Nat) - s.i < 100 -
 i ∧ True))))))))))) ∧ (decide ((↑i : Int) < (↑(at3 c.progs (↑t : Int)).length : Int)) = false → constA Value.nilIface = AVal.nili ∧ True)) := by kernel_rfl
theorem wi_iff {n lo hi : Int} : wi n lo hi = true ↔ lo ≤ n ∧ n ≤ hi := by simp [wi]
theorem wi_e_ok (n lo hi : Int) : Paid (entryX F (lookC []) 200 Tryz.f85 b85 ⟨[],.b (wi n lo hi),[]⟩ [.i .i64 n,.i .i64 lo,.i .i64 hi]) := by
 refine ⟨?_⟩
 rw [wi_e]
 exact ⟨fun h => ⟨by rw [wi,h,Bool.true_and],trivial⟩,fun h => ⟨by rw [wi,h,Bool.false_and],trivial⟩⟩
theorem wiOk : CtrOk1 F.S 85 (mkCtr wiD) :=
 mkCtr_paid (fn := Tryz.f85) (body := b85) (ctr := lookC []) codOk noExt hookLow noneOk Tryz.func85 rfl rfl rfl wiD 200 (fun _ => []) (show 3 ≤ 15 by decide) (show 15 ≤ 512 by decide) (by kernel_rfl) (fun _ _ => ⟨rfl,rfl⟩)
  (fun (x : Int × Int × Int × Unit) hp => wi_e_ok x.1 x.2.1 x.2.2.1) (fun x hp p hm => by cases hm)
theorem wr_e_ok (w : Wk) : Paid (entryX F (lookC []) 200 Tryz.f150 b48 ⟨[(2,wrC w)],.b (writesB w.o),[]⟩ [.fp (enc9 w)]) := by
 refine ⟨?_⟩
 rw [wr_e]
 exact ⟨0,rfl,rfl,rfl,⟨Nat.zero_le _,fun y hy => by simp at hy⟩,trivial⟩
theorem wr_2_ok (w : Wk) (k : Nat) (hl : w.o.length ≤ 1000) (hk : k ≤ w.o.length) (hn : ∀ y ∈ w.o.take k,(y.b == 0) = false) : Paid (cutVC F (lookC []) 200 Tryz.f150 b48 ⟨[(2,wrC w)],.b (writesB w.o),[]⟩ 2 (wrC w) k) := by
 refine ⟨?_⟩
 rw [wr_2]
 refine ⟨fun h => ?_,fun h => ?_⟩
 ·have h : k < w.o.length := by have := qb h; omega
  have e : at2 w.o (k : Int) = w.o[k] := at2_get h
  refine ⟨⟨by omega,by omega⟩,fun g => ⟨?_,trivial⟩,fun g => ⟨k + 1,rfl,rfl,succ64 (by omega),⟨h,all_take hn h (by rw [← e]; exact g)⟩,by omega,trivial⟩⟩
  rw [writesB]
  refine (List.any_eq_true.2 ⟨_,List.getElem_mem h, ?_⟩).symm
  rw [← e]; exact g
 ·have h : k = w.o.length := by have := qc h; omega
  subst h
  rw [List.take_length] at hn
  refine ⟨?_,trivial⟩
  rw [writesB]
  refine (List.any_eq_false.2 fun y hy => ?_).symm
  rw [hn y hy]
  simp
theorem wrOk : CtrOk1 F.S 150 (mkCtr wrD) :=
 mkCtr_paid (fn := Tryz.f150) (body := b48) (ctr := lookC []) codOk noExt hookLow noneOk Tryz.func150 rfl rfl rfl wrD 200 (fun (x : Wk × Unit) => [(2,wrC x.1)]) (show 1 ≤ 18 by decide) (show 18 ≤ 512 by decide) (by kernel_rfl) (fun _ _ => ⟨rfl,rfl⟩)
  (fun (x : Wk × Unit) hp => wr_e_ok x.1) (fun (x : Wk × Unit) hp p hm s hI => by
   rw [List.mem_singleton] at hm
   subst hm
   exact wr_2_ok x.1 s hp hI.1 hI.2)
theorem wa_e_ok (w : Wk) (x : Instr) (hl : w.o.length ≤ 1000) (h0 : 0 ≤ x.a) : Paid (entryX F (lookC []) 200 Tryz.f151 b49 ⟨[],.i .i64 (waitF w.conds w.o x),[]⟩ [.fp (enc9 w),.agg (enc2 x)]) := by
 refine ⟨?_⟩
 rw [wa_e]
 refine ⟨fun h => ⟨?_,trivial⟩,fun h => ⟨fun g => ⟨?_,trivial⟩,fun g => ?_⟩⟩
 ·rw [waitF,if_pos (qb h)]
 ·have g : (w.o.length : Int) ≠ 1 := by simpa using g
  rw [waitF,if_neg (qc h),if_pos (.inl g)]
 ·have h := qc h
  have g : (w.o.length : Int) = 1 := by simpa using g
  refine ⟨⟨by omega,by omega⟩,⟨h0,by omega⟩,fun k => ⟨?_,trivial⟩,fun k => ⟨⟨by omega,by omega⟩,fun m => ⟨?_,trivial⟩,fun m => ⟨?_,trivial⟩⟩⟩
  ·have k : (at2 w.o 0).a ≠ at0 w.conds x.a := by simpa using k
   rw [waitF,if_neg h,if_pos (.inr k)]
  ·have k : (at2 w.o 0).a = at0 w.conds x.a := by simpa using k
   rw [waitF,if_neg h,if_neg (by rintro (e | e); exact e g; exact e k),if_pos (eq_of_beq m)]
  ·have k : (at2 w.o 0).a = at0 w.conds x.a := by simpa using k
   rw [waitF,if_neg h,if_neg (by rintro (e | e); exact e g; exact e k),if_neg (ne_of_beq_false m)]
theorem waOk : CtrOk1 F.S 151 (mkCtr waD) :=
 mkCtr_paid (fn := Tryz.f151) (body := b49) (ctr := lookC []) codOk noExt hookLow noneOk Tryz.func151 rfl rfl rfl waD 200 (fun _ => []) (show 2 ≤ 50 by decide) (show 50 ≤ 512 by decide) (by kernel_rfl) (fun _ _ => ⟨rfl,rfl⟩)
  (fun (x : Wk × Instr × Unit) hp => wa_e_ok x.1 x.2.1 hp.1 hp.2) (fun x hp p hm => by cases hm)
theorem wk_e_ok (w : Wk) (x : Instr) : Paid (entryX F (lookC []) 200 Tryz.f152 b50 ⟨[(4,wkC w x)],.i .i64 (wakeF w.conds w.o x),[]⟩ [.fp (enc9 w),.agg (enc2 x)]) := by
 refine ⟨?_⟩
 rw [wk_e]
 refine ⟨fun h => ⟨?_,trivial⟩,fun h => ?_⟩
 ·rw [wakeF,if_pos (qb h)]
 ·have h := qc h
  refine ⟨0, ?_⟩
  repeat' apply And.intro
  all_goals first
   | exact rfl
   | exact trivial
   | omega
   | (intro y hy; simp at hy)
theorem wk_4_ok (w : Wk) (x : Instr) (k : Nat) (hl : w.o.length ≤ 1000) (h0 : 0 ≤ x.a) (hk : k ≤ w.o.length) (hx : x.a < w.conds.length) (hn : ∀ y ∈ w.o.take k,(y.a == at0 w.conds x.a) = false) : Paid (cutVC F (lookC []) 200 Tryz.f152 b50 ⟨[(4,wkC w x)],.i .i64 (wakeF w.conds w.o x),[]⟩ 4 (wkC w x) k) := by
 refine ⟨?_⟩
 rw [wk_4]
 refine ⟨fun h => ?_,fun h => ?_⟩
 ·have h : k < w.o.length := by have := qb h; omega
  have e : at2 w.o (k : Int) = w.o[k] := at2_get h
  refine ⟨⟨by omega,by omega⟩,⟨h0,hx⟩,fun g => ?_,fun g => ?_⟩
  ·have g : (w.o[k].a == at0 w.conds x.a) = false := by
    rw [e] at g
    simpa using g
   refine ⟨k + 1, ?_⟩
   have hw : IntKind.i64.wrap ((k : Int) + 1) = ((k + 1 : Nat) : Int) := succ64 (by omega)
   have hn' := all_take hn h g
   have hm : w.o.length - (k + 1) < w.o.length - k := by omega
   repeat' apply And.intro
   all_goals first
    | exact rfl
    | exact trivial
    | exact hw
    | exact h
    | exact hx
    | exact hn'
    | exact hm
  ·have g : w.o[k].a = at0 w.conds x.a := by
    rw [e] at g
    simpa using g
   have hf : w.o.find? (fun y => y.a == at0 w.conds x.a) = some w.o[k] := by
    rw [List.find?_eq_some_iff_getElem]
    refine ⟨by simpa using g,k,h,rfl,fun j hj => ?_⟩
    have := hn w.o[j] (by rw [List.mem_take_iff_getElem]; exact ⟨j,by omega,rfl⟩)
    simpa using this
   rw [wakeF,if_neg (by omega),hf,e]
   refine ⟨fun m => ⟨?_,trivial⟩,fun m => ⟨?_,trivial⟩⟩
   ·simp only
    rw [if_pos (eq_of_beq m)]
   ·simp only
    rw [if_neg (ne_of_beq_false m)]
 ·have h : k = w.o.length := by have := qc h; omega
  subst h
  rw [List.take_length] at hn
  have hf : w.o.find? (fun y => y.a == at0 w.conds x.a) = none := List.find?_eq_none.2 fun y hy => by rw [hn y hy]; simp
  rw [wakeF,if_neg (by omega),hf]
  exact ⟨rfl,trivial⟩
theorem wkOk : CtrOk1 F.S 152 (mkCtr wkD) :=
 mkCtr_paid (fn := Tryz.f152) (body := b50) (ctr := lookC []) codOk noExt hookLow noneOk Tryz.func152 rfl rfl rfl wkD 200 (fun (x : Wk × Instr × Unit) => [(4,wkC x.1 x.2.1)]) (show 2 ≤ 41 by decide) (show 41 ≤ 512 by decide) (by kernel_rfl) (fun _ _ => ⟨rfl,rfl⟩)
  (fun (x : Wk × Instr × Unit) hp => wk_e_ok x.1 x.2.1) (fun (x : Wk × Instr × Unit) hp p hm s hI => by
   rw [List.mem_singleton] at hm
   subst hm
   exact wk_4_ok x.1 x.2.1 s hp.1 hp.2 hI.1 hI.2.1 hI.2.2)
theorem g1Ok : CtrOk F.S (lookC g1) := lookC_ok fun p h => by
 simp only [g1,List.mem_cons,List.not_mem_nil,or_false] at h
 rcases h with rfl | rfl | rfl | rfl | rfl | rfl | rfl | rfl
 ·exact wiOk
 ·exact noCtr_ok
 ·exact noCtr_ok
 ·exact mayOk
 ·exact mtOk
 ·exact wrOk
 ·exact waOk
 ·exact wkOk
theorem may_a {x : Instr} (h : mayB x = true) : 0 ≤ x.a := by
 simp only [mayB,qj] at h
 have := h.2.2.1
 simp only [fitB,qj,decide_eq_true_eq] at this
 exact this.1
theorem lst_concat (a : List Blk) (z : Blk) : lst (a ++ [z]) = z := by
 unfold lst
 have hl : a.length < (a ++ [z]).length := by simp
 rw [show ((a ++ [z]).length : Int) - 1 = ((a.length : Nat) : Int) by simp]
 rw [at8_get hl]
 simp
theorem cnt_append (p : List Instr) (a b : List Blk) : cnt p (a ++ b) = cnt p a + cnt p b := by simp [cnt]
theorem cnt_one (p : List Instr) (b : Blk) : cnt p [b] = if (at2 p b.a).op = 13 then 1 else 0 := by
 unfold cnt
 by_cases h : (at2 p b.a).op = 13
 ·rw [if_pos h]; simp [h]
 ·rw [if_neg h]; simp [h]
theorem take_concat (a : List Blk) (z : Blk) : (a ++ [z]).take ((a ++ [z]).length - 1) = a := by simp
theorem set_concat (a : List Blk) (z b : Blk) : (a ++ [z]).set ((a ++ [z]).length - 1) b = a ++ [b] := by simp
theorem mstep_cnt {p : List Instr} {i : Nat} {m m' : List Int} {s s' : List Blk} (hs : mstep p i ⟨m,s⟩ = some ⟨m',s'⟩) :
 ((at2 p i).op = 13 → cnt p s' = cnt p s + 1) ∧ ((at2 p i).op = 14 → cnt p s' + 1 = cnt p s) ∧ ((at2 p i).op ≠ 13 → (at2 p i).op ≠ 14 → cnt p s' = cnt p s) := by
 by_cases ho : (at2 p i).op = 18 ∨ (at2 p i).op = 21 ∨ (at2 p i).op = 13
 ·rw [ms_open ho] at hs
  simp only [qa,MS.mk.injEq] at hs
  obtain ⟨_,rfl⟩ := hs
  rw [cnt_append,cnt_one]
  refine ⟨fun h => ?_,fun h => by omega,fun h _ => ?_⟩
  ·rw [if_pos h]
  ·rw [if_neg h]; rfl
 ·by_cases hk : opener (at2 p i).op = 0
  ·rw [ms_other ho hk] at hs
   simp only [qa,MS.mk.injEq] at hs
   obtain ⟨_,rfl⟩ := hs
   refine ⟨fun h => by omega,fun h => ?_,fun _ _ => rfl⟩
   rw [h] at hk
   simp [opener] at hk
  ·by_cases hb : msBad p i s
   ·rw [ms_bad hk hb] at hs; cases hs
   ·rcases List.eq_nil_or_concat s with rfl | ⟨a,z,e⟩
    ·exact (hb (.inl rfl)).elim
    ·rw [List.concat_eq_append] at e
     subst e
     have hz : (at2 p z.a).op = opener (at2 p i).op := by
      by_cases h : (at2 p z.a).op = opener (at2 p i).op
      ·exact h
      ·exact (hb (.inr (.inl (by rw [lst_concat]; exact h)))).elim
     have hop := op_of hk
     by_cases h1 : (at2 p i).op = 19
     ·rw [ms_else hk hb h1,set_concat,lst_concat] at hs
      simp only [qa,MS.mk.injEq] at hs
      obtain ⟨_,rfl⟩ := hs
      refine ⟨fun h => by omega,fun h => by omega,fun _ _ => ?_⟩
      rw [cnt_append,cnt_append,cnt_one,cnt_one]
     ·have fin : s' = a → ((at2 p i).op = 13 → cnt p s' = cnt p (a ++ [z]) + 1) ∧ ((at2 p i).op = 14 → cnt p s' + 1 = cnt p (a ++ [z])) ∧ ((at2 p i).op ≠ 13 → (at2 p i).op ≠ 14 → cnt p s' = cnt p (a ++ [z])) := by
       rintro rfl
       rw [cnt_append,cnt_one,hz]
       refine ⟨fun h => by omega,fun h => ?_,fun _ h => ?_⟩
       ·rw [h]; rfl
       ·rw [if_neg]
        ·rfl
        ·rcases hop with e | e | e | e
         ·exact (h1 e).elim
         ·rw [e]; decide
         ·rw [e]; decide
         ·exact (h e).elim
      by_cases h2 : (at2 p i).op = 22 ∨ (at2 p i).op = 14
      ·rw [ms_back hk hb h2,take_concat] at hs
       simp only [qa,MS.mk.injEq] at hs
       exact fin hs.2.symm
      ·rw [ms_end hk hb h1 h2,take_concat] at hs
       simp only [qa,MS.mk.injEq] at hs
       exact fin hs.2.symm
theorem mt_on {p : List Instr} {i : Nat} {m : List Int} {s : List Blk} (hi : i < p.length) (hI : mtI p ⟨⟨m,s⟩,i⟩) (hn : (matesR p).2 < 0) : ∃ m' s',mstep p i ⟨m,s⟩ = some ⟨m',s'⟩ ∧ mtI p ⟨⟨m',s'⟩,i + 1⟩ := by
 cases hs : mstep p i ⟨m,s⟩ with
 | none =>
  have := (mt_fail hi hI hs).2.1
  omega
 | some q' =>
  obtain ⟨m',s'⟩ := q'
  refine ⟨m',s',rfl, ?_⟩
  by_cases ho : (at2 p i).op = 18 ∨ (at2 p i).op = 21 ∨ (at2 p i).op = 13
  ·refine mt_next hi hI hs ?_ ?_ ?_ <;> rw [ms_open ho] at hs <;> simp only [qa,MS.mk.injEq] at hs <;> obtain ⟨rfl,rfl⟩ := hs
   ·simp
   ·intro b hb
    rw [List.mem_append,List.mem_singleton] at hb
    rcases hb with hb | rfl
    ·exact .inl hb
    ·exact .inr (.inl ⟨rfl,rfl⟩)
   ·simp
  ·by_cases hk : opener (at2 p i).op = 0
   ·refine mt_next hi hI hs ?_ ?_ ?_ <;> rw [ms_other ho hk] at hs <;> simp only [qa,MS.mk.injEq] at hs <;> obtain ⟨rfl,rfl⟩ := hs
    ·simp
    ·exact fun b hb => .inl hb
    ·omega
   ·by_cases hb : msBad p i s
    ·rw [ms_bad hk hb] at hs; cases hs
    ·have hne : s ≠ [] := fun e => hb (.inl e)
     by_cases h1 : (at2 p i).op = 19
     ·refine mt_next hi hI hs ?_ ?_ ?_ <;> rw [ms_else hk hb h1] at hs <;> simp only [qa,MS.mk.injEq] at hs <;> obtain ⟨rfl,rfl⟩ := hs
      ·simp
      ·intro b hbm
       rcases List.mem_or_eq_of_mem_set hbm with h | rfl
       ·exact .inl h
       ·exact .inr (.inr ⟨_,lst_in hne,rfl,rfl⟩)
      ·simp
     ·by_cases h2 : (at2 p i).op = 22 ∨ (at2 p i).op = 14
      ·refine mt_next hi hI hs ?_ ?_ ?_ <;> rw [ms_back hk hb h2] at hs <;> simp only [qa,MS.mk.injEq] at hs <;> obtain ⟨rfl,rfl⟩ := hs
       ·simp
       ·exact fun b hbm => .inl (List.mem_of_mem_take hbm)
       ·simp; omega
      ·refine mt_next hi hI hs ?_ ?_ ?_ <;> rw [ms_end hk hb h1 h2] at hs <;> simp only [qa,MS.mk.injEq] at hs <;> obtain ⟨rfl,rfl⟩ := hs
       ·simp
       ·exact fun b hbm => .inl (List.mem_of_mem_take hbm)
       ·simp; omega
section
variable {c : Config} {t : Nat} {p : List Instr} {i : Nat} {w : WS} {q : MS}
theorem wgo_step (hi : i < p.length) : wgo c t p (p.length - i) i w = if wcode c (at2 p i) w = 0 then wgo c t p (p.length - (i + 1)) (i + 1) (wnext (at2 p i) w) else (wcode c (at2 p i) w,t,i) := by
 rw [show p.length - i = (p.length - (i + 1)) + 1 by omega]
 rfl
theorem pg_fail (hI : pgI c t p ⟨i,w,q⟩) (hi : i < p.length) {k : Int} (hk : wcode c (at2 p i) w = k) (h1 : 1 ≤ k) (h2 : k ≤ 10) {s : String} : Stuck s := by
 have h0 : k ≠ 0 := by omega
 have e : pwC c t = (k,(t : Int),(i : Int)) := by
  have h := hI.2.2.2.1
  have h' := wgo_step (c := c) (t := t) (w := w) hi
  rw [if_neg (by rw [hk]; exact h0),hk] at h'
  exact h.trans h'
 have g := hI.2.2.2.2.2.2.2.2.2
 rw [e] at g
 exact (h0 (congrArg Prod.fst g)).elim
theorem wnext_o (x : Instr) (w : WS) : (x.op = 13 → (wnext x w).o.length = w.o.length + 1) ∧ (x.op = 14 → (wnext x w).o.length = w.o.length - 1) ∧ (x.op ≠ 13 → x.op ≠ 14 → (wnext x w).o = w.o) ∧ (w.loops - 1 ≤ (wnext x w).loops ∨ (wnext x w).loops = 0) ∧ ((wnext x w).loops ≤ w.loops + 1 ∨ (wnext x w).loops = 0) := by
 unfold wnext
 by_cases h1 : x.op = 13
 ·simp only [if_pos h1]
  refine ⟨fun _ => by simp,fun h => by omega,fun h => (h h1).elim, ?_, ?_⟩
  ·split
   ·exact .inr rfl
   ·exact .inl (by omega)
  ·split
   ·exact .inr rfl
   ·exact .inl (by omega)
 ·simp only [if_neg h1]
  by_cases h2 : x.op = 14
  ·simp only [if_pos h2]
   exact ⟨fun h => (h1 h).elim,fun _ => by simp,fun _ h => (h h2).elim,.inl (by omega),.inl (by omega)⟩
  ·simp only [if_neg h2]
   by_cases h3 : x.op = 21
   ·simp only [if_pos h3]
    exact ⟨fun h => (h1 h).elim,fun h => (h2 h).elim,fun _ _ => trivial,.inl (by omega),.inl (by omega)⟩
   ·simp only [if_neg h3]
    by_cases h4 : x.op = 22
    ·simp only [if_pos h4]
     exact ⟨fun h => (h1 h).elim,fun h => (h2 h).elim,fun _ _ => trivial,.inl (by omega),.inl (by omega)⟩
    ·simp only [if_neg h4]
     exact ⟨fun h => (h1 h).elim,fun h => (h2 h).elim,fun _ _ => trivial,.inl (by omega),.inl (by omega)⟩
theorem pg_next (hI : pgI c t p ⟨i,w,q⟩) (hi : i < p.length) (h0 : wcode c (at2 p i) w = 0) : ∃ q',pgI c t p ⟨i + 1,wnext (at2 p i) w,q'⟩ := by
 obtain ⟨m,s⟩ := q
 obtain ⟨k1,k2,k3,k4,k5,k6,k7,k8,k9,k10⟩ := hI
 replace k4 : pwC c t = wgo c t p (p.length - i) i w := k4
 replace k5 : -(i : Int) ≤ w.loops ∧ w.loops ≤ i := k5
 replace k6 : w.o.length ≤ i := k6
 replace k9 : w.o.length = cnt p s := k9
 obtain ⟨m',s',h1,h2⟩ := mt_on hi k8 k7
 obtain ⟨c1,c2,c3⟩ := mstep_cnt h1
 obtain ⟨o1,o2,o3,o4,o5⟩ := wnext_o (at2 p i) w
 rw [wgo_step hi,if_pos h0] at k4
 refine ⟨⟨m',s'⟩,hi,k2,k3,k4, ?_, ?_,k7,h2, ?_,k10⟩
 ·show -((i + 1 : Nat) : Int) ≤ (wnext (at2 p i) w).loops ∧ (wnext (at2 p i) w).loops ≤ ((i + 1 : Nat) : Int)
  omega
 ·show (wnext (at2 p i) w).o.length ≤ i + 1
  by_cases h13 : (at2 p i).op = 13
  ·rw [o1 h13]; omega
  ·by_cases h14 : (at2 p i).op = 14
   ·rw [o2 h14]; omega
   ·rw [o3 h13 h14]; omega
 ·show (wnext (at2 p i) w).o.length = cnt p s'
  by_cases h13 : (at2 p i).op = 13
  ·rw [o1 h13,c1 h13,k9]
  ·by_cases h14 : (at2 p i).op = 14
   ·rw [o2 h14,k9,← c2 h14]; rfl
   ·rw [o3 h13 h14,c3 h13 h14,k9]
theorem pg_leave (hI : pgI c t p ⟨i,w,q⟩) (hi : i < p.length) (h : (at2 p i).op = 14) : 1 ≤ w.o.length := by
 obtain ⟨m,s⟩ := q
 obtain ⟨k1,k2,k3,k4,k5,k6,k7,k8,k9,k10⟩ := hI
 obtain ⟨m',s',h1,h2⟩ := mt_on hi k8 k7
 have := (mstep_cnt h1).2.1 h
 have k9 : w.o.length = cnt p s := k9
 omega
theorem may_step (h : i < p.length) : mayGo p (p.length - i) i = if mayB (at2 p i) = true then mayGo p (p.length - (i + 1)) (i + 1) else i := by
 rw [show p.length - i = (p.length - (i + 1)) + 1 by omega]
 rfl
end
section
variable (c : Config) (t : Nat)
theorem pg_e_ok (hs : small c) (ht : t < c.progs.length) (hg : pwC c t = (0,0,0)) : Paid (entryX F (lookC g1) 300 Tryz.f87 b16 (pgF c t) [.agg (enc4 c),.i .i64 t]) := by
 refine ⟨?_⟩
 have h3 := hs.2.2.2
 rw [pg_e,wrap64 (n := (c.progs.length : Int) - 1) (by omega) (by omega),wi_iff.2 ⟨(by omega : (0 : Int) ≤ t),(by omega : (t : Int) ≤ (c.progs.length : Int) - 1)⟩]
 refine ⟨trivial,nofun,fun _ => ⟨⟨by omega,by omega⟩,fun h => ?_,fun h => ⟨0,rfl,rfl,rfl,rfl,rfl,rfl,rfl,rfl,rfl,rfl,rfl,rfl,rfl,rfl,rfl,rfl,rfl,⟨Nat.zero_le _, ?_,rfl,fun k hk => by omega,hg⟩,trivial⟩⟩⟩
 ·rw [pwC,progP,if_pos (qb h)] at hg
  exact absurd (congrArg Prod.fst hg) (show ¬ (4 : Int) = 0 by decide)
 ·have := qc h
  omega
theorem pg_7_ok (i : Nat) (hi : i ≤ (at3 c.progs t).length) (h48 : (at3 c.progs t).length ≤ 48) (hm : mayGo (at3 c.progs t) ((at3 c.progs t).length - i) i = mayGo (at3 c.progs t) (at3 c.progs t).length 0) (ha : ∀ k,k < i → mayB (at2 (at3 c.progs t) k) = true) (hg : pwC c t = (0,0,0)) :
 Paid (cutVC F (lookC g1) 300 Tryz.f87 b16 (pgF c t) 7 (pgC7 c t) i) := by
 refine ⟨?_⟩
 rw [pg_7]
 have hw : IntKind.i64.wrap ((i : Int) + 1) = ((i + 1 : Nat) : Int) := succ64 (by omega)
 refine ⟨fun h => ?_,fun h => ?_⟩
 ·have h : i < (at3 c.progs t).length := by have := qb h; omega
  have hs := may_step h
  refine ⟨⟨by omega,by omega⟩,trivial,fun g => ?_,fun g => ⟨i + 1,rfl,rfl,rfl,rfl,rfl,rfl,rfl,rfl,rfl,rfl,rfl,rfl,rfl,rfl,rfl,rfl,hw,⟨h,h48, ?_, ?_,hg⟩,by omega,trivial⟩⟩
  ·have g : (!mayB (at2 (at3 c.progs t) i)) = true := g
   have g : ¬ mayB (at2 (at3 c.progs t) i) = true := by simpa using g
   rw [if_neg g,hm] at hs
   rw [pwC,progP,if_neg (by omega),if_pos (by omega),hs] at hg
   exact absurd (congrArg Prod.fst hg) (show ¬ (1 : Int) = 0 by decide)
  ·have g : (!mayB (at2 (at3 c.progs t) i)) = false := g
   have g : mayB (at2 (at3 c.progs t) i) = true := by simpa using g
   rw [if_pos g,hm] at hs
   exact hs.symm
  ·have g : (!mayB (at2 (at3 c.progs t) i)) = false := g
   have g : mayB (at2 (at3 c.progs t) i) = true := by simpa using g
   intro k hk
   rcases qm k i with h1 | h1
   ·exact ha k h1
   ·obtain rfl : k = i := by omega
    exact g
 ·have h : i = (at3 c.progs t).length := by have := qc h; omega
  rw [← h,Nat.sub_self] at hm
  have hm : mayGo (at3 c.progs t) (at3 c.progs t).length 0 = -1 := by rw [← h]; exact hm.symm
  have hmt : (mtD).pre (at3 c.progs t,()) := by
   show (at3 c.progs t).length ≤ 100000
   omega
  refine ⟨hmt,fun g => ?_,fun g => ⟨⟨0,⟨[],0,0⟩,⟨List.replicate (at3 c.progs t).length 0,[]⟩⟩,rfl,rfl,rfl,rfl,rfl,rfl,rfl,rfl,rfl,rfl,rfl,rfl,rfl,rfl,rfl,rfl,rfl,rfl,rfl,⟨Nat.zero_le _,h48, ?_, ?_,⟨(show -((0 : Nat) : Int) ≤ 0 by decide),(show (0 : Int) ≤ ((0 : Nat) : Int) by decide)⟩,qf _, ?_,⟨Nat.zero_le _,⟨List.length_replicate,fun b hb => by cases hb⟩,qf _,rfl⟩,rfl,hg⟩, ?_,trivial⟩⟩
  ·have g : (matesR (at3 c.progs t)).2 ≥ 0 := qb g
   rw [pwC,progP,if_neg (by omega),if_neg (by omega),if_pos g] at hg
   exact absurd (congrArg Prod.fst hg) (show ¬ (5 : Int) = 0 by decide)
  ·intro k hk
   exact ha k (by omega)
  ·have g : ¬ (matesR (at3 c.progs t)).2 ≥ 0 := qc g
   rw [pwC,progP,if_neg (by omega),if_neg (by omega),if_neg g]
   rfl
  ·have g : ¬ (matesR (at3 c.progs t)).2 ≥ 0 := qc g
   omega
  ·show 100 - 0 < 200 - i
   omega
theorem pg_17_ok (i : Nat) (o : List Instr) (tp lp : Int) (q : MS) (hI : pgI c t (at3 c.progs t) ⟨i,⟨o,tp,lp⟩,q⟩) : Paid (cutVC F (lookC g1) 300 Tryz.f87 b16 (pgF c t) 17 (pgC17 c t) ⟨i,⟨o,tp,lp⟩,q⟩) := by
 refine ⟨?_⟩
 rw [pg_17]
 generalize hp : at3 c.progs t = p at hI ⊢
 have k1 : i ≤ p.length := hI.1
 have k2 : p.length ≤ 48 := hI.2.1
 have k5 : -(i : Int) ≤ lp ∧ lp ≤ i := hI.2.2.2.2.1
 have k6 : o.length ≤ i := hI.2.2.2.2.2.1
 have hw : IntKind.i64.wrap ((i : Int) + 1) = ((i + 1 : Nat) : Int) := succ64 (by omega)
 refine ⟨fun h => ?_,fun h => ?_⟩
 ·have h : i < p.length := by have := qb h; omega
  have hmeas : 100 - (i + 1) < 100 - i := by omega
  have ha := may_a (hI.2.2.1 i h)
  generalize hx : at2 p (i : Int) = x at ha ⊢
  have fail : ∀ k : Int,wcode c x ⟨o,tp,lp⟩ = k → 1 ≤ k → k ≤ 10 → Stuck "no" := fun k h1 h2 h3 => pg_fail hI h (by rw [hx]; exact h1) h2 h3
  have go : ∀ (o' : List Instr) (tp' lp' : Int),wcode c x ⟨o,tp,lp⟩ = 0 → wnext x ⟨o,tp,lp⟩ = ⟨o',tp',lp'⟩ → ∃ (s : PgS),(t : Int) = (t : Int) ∧ c.engine = c.engine ∧ c.clock = c.clock ∧ c.stripes = c.stripes ∧ c.reads = c.reads ∧ c.writes = c.writes ∧ c.retry = c.retry ∧ c.fuel = c.fuel ∧ c.most = c.most ∧ c.init = c.init ∧ c.locks = c.locks ∧ c.conds = c.conds ∧ c.progs = c.progs ∧
   o' = s.w.o ∧ tp' = s.w.top ∧ lp' = s.w.loops ∧ p = p ∧ (p.length : Int) = (p.length : Int) ∧ IntKind.i64.wrap ((i : Int) + 1) = (s.i : Int) ∧ pgI c t p s ∧ 100 - s.i < 100 - i ∧ True := by
   intro o' tp' lp' h0 hn
   obtain ⟨q',hq⟩ := pg_next hI h (by rw [hx]; exact h0)
   rw [hx,hn] at hq
   exact ⟨⟨i + 1,⟨o',tp',lp'⟩,q'⟩,rfl,rfl,rfl,rfl,rfl,rfl,rfl,rfl,rfl,rfl,rfl,rfl,rfl,rfl,rfl,rfl,rfl,rfl,hw,hq,hmeas,trivial⟩
  have same : wcode c x ⟨o,tp,lp⟩ = 0 → x.op ≠ 13 → x.op ≠ 14 → x.op ≠ 21 → x.op ≠ 22 → wnext x ⟨o,tp,lp⟩ = ⟨o,tp,lp⟩ := fun _ h1 h2 h3 h4 => by rw [wnext,if_neg h1,if_neg h2,if_neg h3,if_neg h4]
  have hsz : (o.length + 1) * 40 ≤ 140737488355328 := by omega
  have nb : ∀ {b : Bool},(!b) = true → b = false := fun {b} h => by cases b <;> simp at h ⊢
  have yb : ∀ {b : Bool},(!b) = false → b = true := fun {b} h => by cases b <;> simp at h ⊢
  refine ⟨⟨by omega,by omega⟩,fun g13 => ?_,fun g13 => ⟨fun g14 => ?_,fun g14 => ⟨fun g21 => ?_,fun g21 => ⟨fun g22 => ?_,fun g22 => ⟨fun g9 => ?_,fun g9 => ⟨fun g10 => ?_,fun g10 => ⟨fun g11 => ?_,fun g11 => ⟨fun g15 => ?_,fun g15 => ⟨fun g16 => ?_,fun g16 => ⟨fun g17 => ?_,fun g17 => ?_⟩⟩⟩⟩⟩⟩⟩⟩⟩⟩
  ·-- an OEnter
   have g13 : x.op = 13 := eq_of_beq g13
   have n13 : wnext x ⟨o,tp,lp⟩ = ⟨o ++ [x],mx (if (o.length : Int) = 0 then -1 else tp) x.a,if (o.length : Int) = 0 then 0 else lp⟩ := if_pos g13
   have c13 : wcode c x ⟨o,tp,lp⟩ = (if x.a ≥ c.locks.length then 6 else if x.b = 1 ∧ (at1 c.locks x.a).kind ≠ 3 then 7 else if (o.length : Int) = 0 then 0 else if (o.length : Int) ≥ 3 then 5 else if lp > 0 ∨ x.a ≤ tp then 8 else 0) := if_pos g13
   have inner : ¬ x.a ≥ c.locks.length → ¬ (x.b = 1 ∧ (at1 c.locks x.a).kind ≠ 3) → wcode c x ⟨o,tp,lp⟩ = (if (o.length : Int) = 0 then 0 else if (o.length : Int) ≥ 3 then 5 else if lp > 0 ∨ x.a ≤ tp then 8 else 0) := fun e1 e2 => by rw [c13,if_neg e1,if_neg e2]
   refine ⟨fun e1 => fail 6 (by rw [c13,if_pos (qb e1)]) (by decide) (by decide),fun e1 => ⟨fun e2 => ?_,fun e2 => ?_⟩⟩
   ·have e1 := qc e1
    refine ⟨⟨ha,by omega⟩,fun e3 => fail 7 ?_ (by decide) (by decide),fun e3 => ?_⟩
    ·have e3 : (at1 c.locks x.a).kind ≠ 3 := by simpa using e3
     rw [c13,if_neg e1,if_pos ⟨eq_of_beq e2,e3⟩]
    ·have e3 : (at1 c.locks x.a).kind = 3 := by simpa using e3
     have ci := inner e1 (fun e => e.2 e3)
     refine ⟨fun e4 => ⟨hsz,go _ _ _ ?_ ?_⟩,fun e4 => ⟨fun e5 => fail 5 ?_ (by decide) (by decide),fun e5 => ⟨fun e6 => fail 8 ?_ (by decide) (by decide),fun e6 => ⟨fun e7 => fail 8 ?_ (by decide) (by decide),fun e7 => ⟨hsz,go _ _ _ ?_ ?_⟩⟩⟩⟩⟩
     ·have e4 : (o.length : Int) = 0 := eq_of_beq e4
      rw [ci,if_pos e4]
     ·have e4 : (o.length : Int) = 0 := eq_of_beq e4
      rw [n13,if_pos e4,if_pos e4]
      rfl
     ·have e4 : (o.length : Int) ≠ 0 := ne_of_beq_false e4
      rw [ci,if_neg e4,if_pos (qb e5)]
     ·have e4 : (o.length : Int) ≠ 0 := ne_of_beq_false e4
      rw [ci,if_neg e4,if_neg (qc e5),if_pos (.inl (qb e6))]
     ·have e4 : (o.length : Int) ≠ 0 := ne_of_beq_false e4
      rw [ci,if_neg e4,if_neg (qc e5),if_pos (.inr (qb e7))]
     ·have e4 : (o.length : Int) ≠ 0 := ne_of_beq_false e4
      rw [ci,if_neg e4,if_neg (qc e5),if_neg (by rintro (e | e); exact qc e6 e; exact qc e7 e)]
     ·have e4 : (o.length : Int) ≠ 0 := ne_of_beq_false e4
      rw [n13,if_neg e4,if_neg e4]
      rfl
   ·have e1 := qc e1
    have ci := inner e1 (fun e => ne_of_beq_false e2 e.1)
    refine ⟨fun e4 => ⟨hsz,go _ _ _ ?_ ?_⟩,fun e4 => ⟨fun e5 => fail 5 ?_ (by decide) (by decide),fun e5 => ⟨fun e6 => fail 8 ?_ (by decide) (by decide),fun e6 => ⟨fun e7 => fail 8 ?_ (by decide) (by decide),fun e7 => ⟨hsz,go _ _ _ ?_ ?_⟩⟩⟩⟩⟩
    ·have e4 : (o.length : Int) = 0 := eq_of_beq e4
     rw [ci,if_pos e4]
    ·have e4 : (o.length : Int) = 0 := eq_of_beq e4
     rw [n13,if_pos e4,if_pos e4]
     rfl
    ·have e4 : (o.length : Int) ≠ 0 := ne_of_beq_false e4
     rw [ci,if_neg e4,if_pos (qb e5)]
    ·have e4 : (o.length : Int) ≠ 0 := ne_of_beq_false e4
     rw [ci,if_neg e4,if_neg (qc e5),if_pos (.inl (qb e6))]
    ·have e4 : (o.length : Int) ≠ 0 := ne_of_beq_false e4
     rw [ci,if_neg e4,if_neg (qc e5),if_pos (.inr (qb e7))]
    ·have e4 : (o.length : Int) ≠ 0 := ne_of_beq_false e4
     rw [ci,if_neg e4,if_neg (qc e5),if_neg (by rintro (e | e); exact qc e6 e; exact qc e7 e)]
    ·have e4 : (o.length : Int) ≠ 0 := ne_of_beq_false e4
     rw [n13,if_neg e4,if_neg e4]
     rfl
  ·-- an OLeave
   have g14 : x.op = 14 := eq_of_beq g14
   have hl : 1 ≤ o.length := pg_leave hI h (by rw [hx]; exact g14)
   have ew : IntKind.i64.wrap ((o.length : Int) - 1) = (o.length : Int) - 1 := wrap64 (by omega) (by omega)
   show (_ ≤ _ ∧ _ ≤ IntKind.i64.wrap ((o.length : Int) - 1) ∧ IntKind.i64.wrap ((o.length : Int) - 1) ≤ (o.length : Int)) ∧ _
   refine ⟨⟨by omega,by omega,by omega⟩,go _ _ _ ?_ ?_⟩
   ·rw [wcode,if_neg (by omega),if_neg (by omega),if_neg (by omega),if_neg (by omega),if_neg (by omega)]
   ·rw [wnext,if_neg (by omega),if_pos g14]
    show _ = WS.mk (List.take ((IntKind.i64.wrap ((o.length : Int) - 1)).toNat - 0) (List.drop 0 o)) tp lp
    rw [ew,show ((o.length : Int) - 1).toNat = o.length - 1 by omega]
    rfl
  ·have g21 : x.op = 21 := eq_of_beq g21
   refine go _ _ _ ?_ ?_
   ·rw [wcode,if_neg (by omega),if_neg (by omega),if_neg (by omega),if_neg (by omega),if_neg (by omega)]
   ·rw [wnext,if_neg (by omega),if_neg (by omega),if_pos g21]
    show _ = WS.mk o tp (IntKind.i64.wrap (lp + 1))
    rw [wrap64 (by omega) (by omega)]
  ·have g22 : x.op = 22 := eq_of_beq g22
   refine go _ _ _ ?_ ?_
   ·rw [wcode,if_neg (by omega),if_neg (by omega),if_neg (by omega),if_neg (by omega),if_neg (by omega)]
   ·rw [wnext,if_neg (by omega),if_neg (by omega),if_neg (by omega),if_pos g22]
    show _ = WS.mk o tp (IntKind.i64.wrap (lp - 1))
    rw [wrap64 (by omega) (by omega)]
  ·have g9 : x.op = 9 := eq_of_beq g9
   have ci : wcode c x ⟨o,tp,lp⟩ = if (o.length : Int) > 0 ∧ writesB o = false then 7 else 0 := by rw [wcode,if_neg (by omega),if_pos g9]
   refine ⟨fun e1 => ⟨(by show o.length ≤ 1000; omega),fun e2 => fail 7 ?_ (by decide) (by decide),fun e2 => go _ _ _ ?_ ?_⟩,fun e1 => go _ _ _ ?_ ?_⟩
   ·rw [ci,if_pos ⟨qb e1,nb e2⟩]
   ·have e2 : writesB o = true := yb e2
    rw [ci,if_neg (by rw [e2]; simp)]
   ·exact same (by have e2 : writesB o = true := yb e2; rw [ci,if_neg (by rw [e2]; simp)]) (by omega) (by omega) (by omega) (by omega)
   ·have e1 := qc e1
    rw [ci,if_neg (fun e => e1 e.1)]
   ·have e1 := qc e1
    exact same (by rw [ci,if_neg (fun e => e1 e.1)]) (by omega) (by omega) (by omega) (by omega)
  ·have g10 : x.op = 10 := eq_of_beq g10
   have ci : wcode c x ⟨o,tp,lp⟩ = if writesB o = false then 7 else 0 := by rw [wcode,if_neg (by omega),if_neg (by omega),if_pos (.inl g10)]
   refine ⟨(by show o.length ≤ 1000; omega),fun e2 => fail 7 (by rw [ci,if_pos (nb e2)]) (by decide) (by decide),fun e2 => ?_⟩
   have e2 : writesB o = true := yb e2
   have c0 : wcode c x ⟨o,tp,lp⟩ = 0 := by rw [ci,if_neg (by rw [e2]; simp)]
   exact go _ _ _ c0 (same c0 (by omega) (by omega) (by omega) (by omega))
  ·have g11 : x.op = 11 := eq_of_beq g11
   have ci : wcode c x ⟨o,tp,lp⟩ = if writesB o = false then 7 else 0 := by rw [wcode,if_neg (by omega),if_neg (by omega),if_pos (.inr g11)]
   refine ⟨(by show o.length ≤ 1000; omega),fun e2 => fail 7 (by rw [ci,if_pos (nb e2)]) (by decide) (by decide),fun e2 => ?_⟩
   have e2 : writesB o = true := yb e2
   have c0 : wcode c x ⟨o,tp,lp⟩ = 0 := by rw [ci,if_neg (by rw [e2]; simp)]
   exact go _ _ _ c0 (same c0 (by omega) (by omega) (by omega) (by omega))
  ·have g15 : x.op = 15 := eq_of_beq g15
   have ci : wcode c x ⟨o,tp,lp⟩ = waitF c.conds o x := by rw [wcode,if_neg (by omega),if_neg (by omega),if_neg (by omega),if_pos g15]
   have hr : waitF c.conds o x = 0 ∨ (1 ≤ waitF c.conds o x ∧ waitF c.conds o x ≤ 10) := by
    unfold waitF
    repeat' split
    all_goals first | (left; rfl) | (right; decide)
   refine ⟨⟨(by show o.length ≤ 1000; omega),ha⟩,fun e => ?_,fun e => ?_⟩
   ·have e : (waitF c.conds o x != 0) = true := e
    have e : waitF c.conds o x ≠ 0 := by simpa using e
    exact fail (waitF c.conds o x) ci (by omega) (by omega)
   ·have e : (waitF c.conds o x != 0) = false := e
    have e : waitF c.conds o x = 0 := by simpa using e
    exact go _ _ _ (ci.trans e) (same (ci.trans e) (by omega) (by omega) (by omega) (by omega))
  ·have g16 : x.op = 16 := eq_of_beq g16
   have ci : wcode c x ⟨o,tp,lp⟩ = wakeF c.conds o x := by rw [wcode,if_neg (by omega),if_neg (by omega),if_neg (by omega),if_neg (by omega),if_pos (.inl g16)]
   have hr : wakeF c.conds o x = 0 ∨ (1 ≤ wakeF c.conds o x ∧ wakeF c.conds o x ≤ 10) := by
    unfold wakeF
    repeat' split
    all_goals first | (left; rfl) | (right; decide)
   refine ⟨⟨(by show o.length ≤ 1000; omega),ha⟩,fun e => ?_,fun e => ?_⟩
   ·have e : (wakeF c.conds o x != 0) = true := e
    have e : wakeF c.conds o x ≠ 0 := by simpa using e
    exact fail (wakeF c.conds o x) ci (by omega) (by omega)
   ·have e : (wakeF c.conds o x != 0) = false := e
    have e : wakeF c.conds o x = 0 := by simpa using e
    exact go _ _ _ (ci.trans e) (same (ci.trans e) (by omega) (by omega) (by omega) (by omega))
  ·have g17 : x.op = 17 := eq_of_beq g17
   have ci : wcode c x ⟨o,tp,lp⟩ = wakeF c.conds o x := by rw [wcode,if_neg (by omega),if_neg (by omega),if_neg (by omega),if_neg (by omega),if_pos (.inr g17)]
   have hr : wakeF c.conds o x = 0 ∨ (1 ≤ wakeF c.conds o x ∧ wakeF c.conds o x ≤ 10) := by
    unfold wakeF
    repeat' split
    all_goals first | (left; rfl) | (right; decide)
   refine ⟨⟨(by show o.length ≤ 1000; omega),ha⟩,fun e => ?_,fun e => ?_⟩
   ·have e : (wakeF c.conds o x != 0) = true := e
    have e : wakeF c.conds o x ≠ 0 := by simpa using e
    exact fail (wakeF c.conds o x) ci (by omega) (by omega)
   ·have e : (wakeF c.conds o x != 0) = false := e
    have e : wakeF c.conds o x = 0 := by simpa using e
    exact go _ _ _ (ci.trans e) (same (ci.trans e) (by omega) (by omega) (by omega) (by omega))
  ·have g13 := ne_of_beq_false g13
   have g14 := ne_of_beq_false g14
   have g21 := ne_of_beq_false g21
   have g22 := ne_of_beq_false g22
   have g9 := ne_of_beq_false g9
   have g10 := ne_of_beq_false g10
   have g11 := ne_of_beq_false g11
   have g15 := ne_of_beq_false g15
   have g16 := ne_of_beq_false g16
   have g17 := ne_of_beq_false g17
   have c0 : wcode c x ⟨o,tp,lp⟩ = 0 := by rw [wcode,if_neg g13,if_neg g9,if_neg (by rintro (e | e); exact g10 e; exact g11 e),if_neg g15,if_neg (by rintro (e | e); exact g16 e; exact g17 e)]
   exact go _ _ _ c0 (same c0 g13 g14 g21 g22)
 ·have h : i = p.length := by have := qc h; omega
  exact ⟨rfl,trivial⟩
end
theorem progOk : CtrOk1 F.S 87 (mkCtr prD) :=
 mkCtr_paid (fn := Tryz.f87) (body := b16) (ctr := lookC g1) codOk noExt hookLow g1Ok Tryz.func87 rfl rfl rfl prD 300 (fun (x : Config × Int × Unit) => [(7,pgC7 x.1 x.2.1.toNat),(17,pgC17 x.1 x.2.1.toNat)]) (show 2 ≤ 82 by decide) (show 82 ≤ 512 by decide) (by kernel_rfl) (fun _ _ => ⟨rfl,rfl⟩)
  (fun (x : Config × Int × Unit) hp => by
   obtain ⟨c,l,u⟩ := x
   obtain ⟨hs,h0,h1,h2⟩ := hp
   obtain ⟨m,rfl⟩ := Int.eq_ofNat_of_zero_le h0
   exact pg_e_ok c m hs (by have : (m : Int) < c.progs.length := h1; omega) h2)
  (fun (x : Config × Int × Unit) hp p hm s hI => by
   simp only [List.mem_cons,List.not_mem_nil,or_false] at hm
   rcases hm with rfl | rfl
   ·exact pg_7_ok x.1 x.2.1.toNat s hI.1 hI.2.1 hI.2.2.1 hI.2.2.2.1 hI.2.2.2.2
   ·exact pg_17_ok x.1 x.2.1.toNat s.i s.w.o s.w.top s.w.loops s.q hI)
end Go.Proofs.YtcholkmididfmaaGreatDoor

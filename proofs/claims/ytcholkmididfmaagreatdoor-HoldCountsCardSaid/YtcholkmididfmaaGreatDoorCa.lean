/- Who can go on: what hold's functions that only look answer. -/
import Derived.Test.YtcholkmididfmaaGreatDoorEv
namespace Go.Proofs.YtcholkmididfmaaGreatDoor
open Go.RowKit Go.Am Go.Sy
set_option linter.unusedVariables false
def inReg (x : Lock) (d : Int) : Bool := decide (x.len > 0) && (decide (d ≥ x.fr) && decide (IntKind.u64.wrap (IntKind.u64.wrap d - IntKind.u64.wrap x.fr) < IntKind.u64.wrap x.len))
def regF (ls : List Lock) (d : Int) : Int := match ls.findIdx? fun x => inReg x d with
 | some i => (i : Int)
 | none => -1
def rgD : CtrD cod where
 pats := [.row 4,.int .i64]
 pre := fun (x : Config × Int × Unit) => x.1.locks.length ≤ 1000
 res := fun (x : Config × Int × Unit) => .i .i64 (regF x.1.locks x.2.1)
 objs := fun x => []
def rgC (ls : List Lock) (d : Int) : CutD cod := ⟨Nat,fun k => k ≤ ls.length ∧ ∀ y ∈ ls.take k,inReg y d = false,fun k => ls.length - k,
 fun k => [(1,.i .i64 d),(8,.tl (T := T) 1 ls),(9,.i .i64 ls.length),(10,.i .i64 (k : Int))],fun _ => []⟩
def holdsB (l : List Held) (op lock : Int) : Bool := l.any fun h => h.lock == lock && (op == 8 || !h.read)
def hoD : CtrD cod where
 pats := [.frow 12,.int .i64,.int .i64]
 pre := fun (x : One × Int × Int × Unit) => x.1.opn.length ≤ 1000
 res := fun (x : One × Int × Int × Unit) => .b (holdsB x.1.opn x.2.1 x.2.2.1)
 objs := fun x => []
def hoC (l : List Held) (op lock : Int) : CutD cod := ⟨Nat,fun k => k ≤ l.length ∧ ∀ h ∈ l.take k,(h.lock == lock && (op == 8 || !h.read)) = false,fun k => l.length - k,
 fun k => [(1,.i .i64 op),(2,.i .i64 lock),(12,.tl (T := T) 6 l),(13,.i .i64 l.length),(14,.i .i64 (k : Int))],fun _ => []⟩
def lockFree (lock : Int) (rd : Bool) (h : Held) : Bool := !(h.lock == lock && !(rd && h.read))
def freeB (all : List One) (lock : Int) (rd : Bool) : Bool := all.all fun x => x.opn.all (lockFree lock rd)
def frD : CtrD cod where
 pats := [.frow 13,.int .i64,.bool]
 pre := fun (x : Mdl × Int × Bool × Unit) => x.1.all.length ≤ 1000 ∧ ∀ y ∈ x.1.all,y.opn.length ≤ 1000
 res := fun (x : Mdl × Int × Bool × Unit) => .b (freeB x.1.all x.2.1 x.2.2.1)
 objs := fun x => []
def frC2 (all : List One) (lock : Int) (rd : Bool) : CutD cod := ⟨Nat,fun k => k ≤ all.length ∧ ∀ y ∈ all.take k,y.opn.all (lockFree lock rd) = true,fun k => 2000 * (all.length - k),
 fun k => [(1,.i .i64 lock),(2,.b rd),(14,.tl (T := T) 12 all),(15,.i .i64 all.length),(16,.i .i64 (k : Int))],fun _ => []⟩
def frC5 (all : List One) (lock : Int) (rd : Bool) : CutD cod := ⟨Nat × Nat,fun s => s.1 < all.length ∧ (∀ y ∈ all.take s.1,y.opn.all (lockFree lock rd) = true) ∧ s.2 ≤ (at12 all s.1).opn.length ∧ ∀ h ∈ (at12 all s.1).opn.take s.2,lockFree lock rd h = true,fun s => 2000 * (all.length - s.1) - 1 - s.2,
 fun s => [(1,.i .i64 lock),(2,.b rd),(14,.tl (T := T) 12 all),(15,.i .i64 all.length),(16,.i .i64 (s.1 : Int)),(21,.tl (T := T) 6 (at12 all s.1).opn),(22,.i .i64 (at12 all s.1).opn.length),(23,.i .i64 (s.2 : Int))],fun _ => []⟩
structure CanOk (M : Mdl) : Prop where
 len : M.all.length = M.progs.length
 small : M.all.length ≤ 1000
 opn : ∀ y ∈ M.all,y.opn.length ≤ 1000
 run : ∀ t : Nat,t < M.all.length → (at12 M.all t).status = 0 → (at12 M.all t).awake < M.conds.length ∧ 0 ≤ (at12 M.all t).at_ ∧ (at12 M.all t).at_ < (at3 M.progs t).length
def ins (M : Mdl) (t : Int) : Instr := at2 (at3 M.progs t) (at12 M.all t).at_
def entB (M : Mdl) (t : Int) : Bool := decide ((at12 M.all t).awake < 0) && (decide ((at12 M.all t).fuel > 0) && ((ins M t).op == 13))
def enD : CtrD cod where
 pats := [.frow 13,.int .i64]
 pre := fun (x : Mdl × Int × Unit) => (0 ≤ x.2.1 ∧ x.2.1 < x.1.all.length) ∧ x.2.1 < x.1.progs.length ∧ 0 ≤ (at12 x.1.all x.2.1).at_ ∧ (at12 x.1.all x.2.1).at_ < (at3 x.1.progs x.2.1).length
 res := fun (x : Mdl × Int × Unit) => .b (entB x.1 x.2.1)
 objs := fun x => []
def canB (M : Mdl) (t : Int) : Bool :=
 if t < 0 ∨ t ≥ M.all.length ∨ (at12 M.all t).status ≠ 0 then false
 else if (at12 M.all t).awake ≥ 0 then freeB M.all (at0 M.conds (at12 M.all t).awake) false
 else if entB M t = true then freeB M.all (ins M t).a ((ins M t).b == 1)
 else true
def caD : CtrD cod where
 pats := [.frow 13,.int .i64]
 pre := fun (x : Mdl × Int × Unit) => CanOk x.1
 res := fun (x : Mdl × Int × Unit) => .b (canB x.1 x.2.1)
 objs := fun x => []
noncomputable def b128 : Code := Tryz.f128.body.getD .skip
noncomputable def b127 : Code := Tryz.f127.body.getD .skip
noncomputable def b57 : Code := Tryz.f57.body.getD .skip
noncomputable def b58 : Code := Tryz.f58.body.getD .skip
noncomputable def b18 : Code := Tryz.f18.body.getD .skip
noncomputable def v2 : List (FuncId × Ctr cod) := [(57,mkCtr frD),(58,mkCtr enD)]
end Go.Proofs.YtcholkmididfmaaGreatDoor
/- Who can go on: the contracts are paid. -/
namespace Go.Proofs.YtcholkmididfmaaGreatDoor
open Go.RowKit Go.Am Go.Sy
set_option linter.unusedVariables false
set_option linter.unusedSimpArgs false
theorem rg_e (c : Config) (d : Int) : Go.Sy.Tree.holds (entryX F (lookC []) 300 Tryz.f128 b128 ⟨[(2,rgC c.locks d)],.i .i64 (regF c.locks d),[]⟩ [.agg (enc4 c),.i .i64 d]) = ( ∃ (s : Nat),d = d ∧ c.locks = c.locks ∧
 (↑c.locks.length : Int) = (↑c.locks.length : Int) ∧ (0 : Int) = (↑s : Int) ∧ (s ≤ c.locks.length ∧ ∀ (y : Lock),y ∈ List.take s c.locks → inReg y d = false) ∧ True) := by kernel_rfl
theorem rg_2 (ls : List Lock) (d : Int) (k : Nat) : Go.Sy.Tree.holds (cutVC F (lookC []) 300 Tryz.f128 b128 ⟨[(2,rgC ls d)],.i .i64 (regF ls d),[]⟩ 2 (rgC ls d) k) = ( (decide ((↑k : Int) < (↑ls.length : Int)) = true →
 ((0 : Int) ≤ (↑k : Int) ∧ (↑k : Int) < (↑ls.length : Int)) ∧ (decide ((at1 ls (↑k : Int)).len > 0) = true → (decide (d ≥ (at1 ls (↑k : Int)).fr) = true → (decide (IntKind.u64.wrap (IntKind.u64.wrap d - IntKind.u64.wrap
 (at1 ls (↑k : Int)).fr) < IntKind.u64.wrap (at1 ls (↑k : Int)).len) = true → (↑k : Int) = regF ls d ∧ True) ∧ (decide (IntKind.u64.wrap (IntKind.u64.wrap d - IntKind.u64.wrap (at1 ls (↑k : Int)).fr) < IntKind.u64.wrap
 (at1 ls (↑k : Int)).len) = false → ∃ (s : Nat),d = d ∧ ls = ls ∧ (↑ls.length : Int) = (↑ls.length : Int) ∧ IntKind.i64.wrap ((↑k : Int) + 1) = (↑s : Int) ∧ (s ≤ ls.length ∧ ∀ (y : Lock),y ∈ List.take s ls → inReg y d =
 false) ∧ ls.length - s < ls.length - k ∧ True)) ∧ (decide (d ≥ (at1 ls (↑k : Int)).fr) = false → ∃ (s : Nat),d = d ∧ ls = ls ∧ (↑ls.length : Int) = (↑ls.length : Int) ∧ IntKind.i64.wrap ((↑k : Int) + 1) = (↑s : Int) ∧
 (s ≤ ls.length ∧ ∀ (y : Lock),y ∈ List.take s ls → inReg y d = false) ∧ ls.length - s < ls.length - k ∧ True)) ∧ (decide ((at1 ls (↑k : Int)).len > 0) = false → ∃ (s : Nat),d = d ∧ ls = ls ∧ (↑ls.length : Int) =
 (↑ls.length : Int) ∧ IntKind.i64.wrap ((↑k : Int) + 1) = (↑s : Int) ∧ (s ≤ ls.length ∧ ∀ (y : Lock),y ∈ List.take s ls → inReg y d = false) ∧ ls.length - s < ls.length - k ∧ True)) ∧ (decide ((↑k : Int) < (↑ls.length :
 Int)) = false → (-1 : Int) = regF ls d ∧ True)) := by kernel_rfl
theorem ho_e (x : One) (op lock : Int) : Go.Sy.Tree.holds (entryX F (lookC []) 300 Tryz.f127 b127 ⟨[(2,hoC x.opn op lock)],.b (holdsB x.opn op lock),[]⟩ [.fp (enc12 x),.i .i64 op,.i .i64 lock]) = ( ∃ (s : Nat),op =
 op ∧ lock = lock ∧ x.opn = x.opn ∧ (↑x.opn.length : Int) = (↑x.opn.length : Int) ∧ (0 : Int) = (↑s : Int) ∧ (s ≤ x.opn.length ∧ ∀ (h : Held),h ∈ List.take s x.opn → (h.lock == lock && (op == 8 || !h.read)) = false) ∧
 True) := by kernel_rfl
theorem ho_2 (l : List Held) (op lock : Int) (k : Nat) : Go.Sy.Tree.holds (cutVC F (lookC []) 300 Tryz.f127 b127 ⟨[(2,hoC l op lock)],.b (holdsB l op lock),[]⟩ 2 (hoC l op lock) k) = ( (decide ((↑k : Int) < (↑l.length
 : Int)) = true → ((0 : Int) ≤ (↑k : Int) ∧ (↑k : Int) < (↑l.length : Int)) ∧ (((at6 l (↑k : Int)).lock == lock) = true → ((op == 8) = true → true = holdsB l op lock ∧ True) ∧ ((op == 8) = false → ((!(at6 l (↑k :
 Int)).read) = true → true = holdsB l op lock ∧ True) ∧ ((!(at6 l (↑k : Int)).read) = false → ∃ (s : Nat),op = op ∧ lock = lock ∧ l = l ∧ (↑l.length : Int) = (↑l.length : Int) ∧ IntKind.i64.wrap ((↑k : Int) + 1) = (↑s :
 Int) ∧ (s ≤ l.length ∧ ∀ (h : Held),h ∈ List.take s l → (h.lock == lock && (op == 8 || !h.read)) = false) ∧ l.length - s < l.length - k ∧ True))) ∧ (((at6 l (↑k : Int)).lock == lock) = false → ∃ (s : Nat),op = op ∧
 lock = lock ∧ l = l ∧ (↑l.length : Int) = (↑l.length : Int) ∧ IntKind.i64.wrap ((↑k : Int) + 1) = (↑s : Int) ∧ (s ≤ l.length ∧ ∀ (h : Held),h ∈ List.take s l → (h.lock == lock && (op == 8 || !h.read)) = false) ∧
 l.length - s < l.length - k ∧ True)) ∧ (decide ((↑k : Int) < (↑l.length : Int)) = false → false = holdsB l op lock ∧ True)) := by kernel_rfl
theorem fr_e (M : Mdl) (lock : Int) (rd : Bool) : Go.Sy.Tree.holds (entryX F (lookC []) 300 Tryz.f57 b57 ⟨[(2,frC2 M.all lock rd),(5,frC5 M.all lock rd)],.b (freeB M.all lock rd),[]⟩ [.fp (enc13 M),.i .i64 lock,.b
 rd]) = ( ∃ (s : Nat),lock = lock ∧ rd = rd ∧ M.all = M.all ∧ (↑M.all.length : Int) = (↑M.all.length : Int) ∧ (0 : Int) = (↑s : Int) ∧ (s ≤ M.all.length ∧ ∀ (y : One),y ∈ List.take s M.all → y.opn.all (lockFree lock rd)
 = true) ∧ True) := by kernel_rfl
theorem fr_2 (all : List One) (lock : Int) (rd : Bool) (k : Nat) : Go.Sy.Tree.holds (cutVC F (lookC []) 300 Tryz.f57 b57 ⟨[(2,frC2 all lock rd),(5,frC5 all lock rd)],.b (freeB all lock rd),[]⟩ 2 (frC2 all lock rd) k)
 = ( (decide ((↑k : Int) < (↑all.length : Int)) = true → ((0 : Int) ≤ (↑k : Int) ∧ (↑k : Int) < (↑all.length : Int)) ∧ ∃ (s : Nat × Nat),lock = lock ∧ rd = rd ∧ all = all ∧ (↑all.length : Int) = (↑all.length : Int) ∧ (↑k
 : Int) = (↑s.fst : Int) ∧ (at12 all (↑k : Int)).opn = (at12 all (↑s.fst : Int)).opn ∧ (↑(at12 all (↑k : Int)).opn.length : Int) = (↑(at12 all (↑s.fst : Int)).opn.length : Int) ∧ (0 : Int) = (↑s.snd : Int) ∧ (s.fst <
 all.length ∧ (∀ (y : One),y ∈ List.take s.fst all → y.opn.all (lockFree lock rd) = true) ∧ s.snd ≤ (at12 all (↑s.fst : Int)).opn.length ∧ ∀ (h : Held),h ∈ List.take s.snd (at12 all (↑s.fst : Int)).opn → lockFree lock
 rd h = true) ∧ (2000 : Nat) * (all.length - s.fst) - 1 - s.snd < 2000 * (all.length - k) ∧ True) ∧ (decide ((↑k : Int) < (↑all.length : Int)) = false → true = freeB all lock rd ∧ True)) := by kernel_rfl
theorem fr_5 (all : List One) (lock : Int) (rd : Bool) (k j : Nat) : Go.Sy.Tree.holds (cutVC F (lookC []) 300 Tryz.f57 b57 ⟨[(2,frC2 all lock rd),(5,frC5 all lock rd)],.b (freeB all lock rd),[]⟩ 5 (frC5 all lock rd)
 (k,j)) = ( (decide ((↑j : Int) < (↑(at12 all (↑k : Int)).opn.length : Int)) = true → ((0 : Int) ≤ (↑j : Int) ∧ (↑j : Int) < (↑(at12 all (↑k : Int)).opn.length : Int)) ∧ (((at6 (at12 all (↑k : Int)).opn (↑j : Int)).lock
 == lock) = true → (rd = true → ((!(at6 (at12 all (↑k : Int)).opn (↑j : Int)).read) = true → false = freeB all lock rd ∧ True) ∧ ((!(at6 (at12 all (↑k : Int)).opn (↑j : Int)).read) = false → ∃ (s : Nat × Nat),lock = lock
 ∧ rd = rd ∧ all = all ∧ (↑all.length : Int) = (↑all.length : Int) ∧ (↑k : Int) = (↑s.fst : Int) ∧ (at12 all (↑k : Int)).opn = (at12 all (↑s.fst : Int)).opn ∧ (↑(at12 all (↑k : Int)).opn.length : Int) = (↑(at12 all
 (↑s.fst : Int)).opn.length : Int) ∧ IntKind.i64.wrap ((↑j : Int) + 1) = (↑s.snd : Int) ∧ (s.fst < all.length ∧ (∀ (y : One),y ∈ List.take s.fst all → y.opn.all (lockFree lock rd) = true) ∧ s.snd ≤ (at12 all (↑s.fst :
 Int)).opn.length ∧ ∀ (h : Held),h ∈ List.take s.snd (at12 all (↑s.fst : Int)).opn → lockFree lock rd h = true) ∧ (2000 : Nat) * (all.length - s.fst) - 1 - s.snd < 2000 * (all.length - k) - 1 - j ∧ True)) ∧ (rd = false →
 false = freeB all lock rd ∧ True)) ∧ (((at6 (at12 all (↑k : Int)).opn (↑j : Int)).lock == lock) = false → ∃ (s : Nat × Nat),lock = lock ∧ rd = rd ∧ all = all ∧ (↑all.length : Int) = (↑all.length : Int) ∧ (↑k : Int) =
 (↑s.fst : Int) ∧ (at12 all (↑k : Int)).opn = (at12 all (↑s.fst : Int)).opn ∧ (↑(at12 all (↑k : Int)).opn.length : Int) = (↑(at12 all (↑s.fst : Int)).opn.length : Int) ∧ IntKind.i64.wrap ((↑j : Int) + 1) = (↑s.snd : Int)
 ∧ (s.fst < all.length ∧ (∀ (y : One),y ∈ List.take s.fst all → y.opn.all (lockFree lock rd) = true) ∧ s.snd ≤ (at12 all (↑s.fst : Int)).opn.length ∧ ∀ (h : Held),h ∈ List.take s.snd (at12 all (↑s.fst : Int)).opn →
 lockFree lock rd h = true) ∧ (2000 : Nat) * (all.length - s.fst) - 1 - s.snd < 2000 * (all.length - k) - 1 - j ∧ True)) ∧ (decide ((↑j : Int) < (↑(at12 all (↑k : Int)).opn.length : Int)) = false → ∃ (s : Nat),lock =
 lock ∧ rd = rd ∧ all = all ∧ (↑all.length : Int) = (↑all.length : Int) ∧ IntKind.i64.wrap ((↑k : Int) + 1) = (↑s : Int) ∧ (s ≤ all.length ∧ ∀ (y : One),y ∈ List.take s all → y.opn.all (lockFree lock rd) = true) ∧ (2000
 : Nat) * (all.length - s) < 2000 * (all.length - k) - 1 - j ∧ True)) := by kernel_rfl
theorem en_e (M : Mdl) (t : Int) : Go.Sy.Tree.holds (entryX F (lookC []) 300 Tryz.f58 b58 ⟨[],.b (entB M t),[]⟩ [.fp (enc13 M),.i .i64 t]) = ( ((0 : Int) ≤ t ∧ t < (↑M.all.length : Int)) ∧ (decide ((at12 M.all t).awake
 < 0) = true → (decide ((at12 M.all t).fuel > 0) = true → ((0 : Int) ≤ t ∧ t < (↑M.progs.length : Int)) ∧ ((0 : Int) ≤ (at12 M.all t).at_ ∧ (at12 M.all t).at_ < (↑(at3 M.progs t).length : Int)) ∧ ((at2 (at3 M.progs t)
 (at12 M.all t).at_).op == 13) = entB M t ∧ True) ∧ (decide ((at12 M.all t).fuel > 0) = false → false = entB M t ∧ True)) ∧ (decide ((at12 M.all t).awake < 0) = false → false = entB M t ∧ True)) := by kernel_rfl
theorem ca_e (M : Mdl) (t : Int) : Go.Sy.Tree.holds (entryX F (lookC v2) 400 Tryz.f18 b18 ⟨[],.b (canB M t),[]⟩ [.fp (enc13 M),.i .i64 t]) = ( (decide (t < 0) = true → false = canB M t ∧ True) ∧ (decide (t < 0) = false
 → (decide (t ≥ (↑M.all.length : Int)) = true → false = canB M t ∧ True) ∧ (decide (t ≥ (↑M.all.length : Int)) = false → ((0 : Int) ≤ t ∧ t < (↑M.all.length : Int)) ∧ (((at12 M.all t).status != 0) = true → false = canB M
 t ∧ True) ∧ (((at12 M.all t).status != 0) = false → ((0 : Int) ≤ t ∧ t < (↑M.all.length : Int)) ∧ (decide ((at12 M.all t).awake ≥ (0 : Int)) = true → ((0 : Int) ≤ (at12 M.all t).awake ∧ (at12 M.all t).awake <
 (↑M.conds.length : Int)) ∧ frD.pre (Mdl.mk M.engine M.clock M.stripes M.reads M.writes M.retry M.fuel M.most M.init M.locks M.conds M.progs M.mates M.words M.owners M.all M.queues,at0 M.conds (at12 M.all t).awake,
 false,()) ∧ freeB M.all (at0 M.conds (at12 M.all t).awake) false = canB M t ∧ True) ∧ (decide ((at12 M.all t).awake ≥ (0 : Int)) = false → enD.pre (Mdl.mk M.engine M.clock M.stripes M.reads M.writes M.retry M.fuel
 M.most M.init M.locks M.conds M.progs M.mates M.words M.owners M.all M.queues,t,()) ∧ (entB (Mdl.mk M.engine M.clock M.stripes M.reads M.writes M.retry M.fuel M.most M.init M.locks M.conds M.progs M.mates M.words
 M.owners M.all M.queues) t = true → ((0 : Int) ≤ t ∧ t < (↑M.progs.length : Int)) ∧ ((0 : Int) ≤ (at12 M.all t).at_ ∧ (at12 M.all t).at_ < (↑(at3 M.progs t).length : Int)) ∧ frD.pre (Mdl.mk M.engine M.clock M.stripes
 M.reads M.writes M.retry M.fuel M.most M.init M.locks M.conds M.progs M.mates M.words M.owners M.all M.queues,(at2 (at3 M.progs t) (at12 M.all t).at_).a,(at2 (at3 M.progs t) (at12 M.all t).at_).b == 1,()) ∧ freeB
 M.all (at2 (at3 M.progs t) (at12 M.all t).at_).a ((at2 (at3 M.progs t) (at12 M.all t).at_).b == 1) = canB M t ∧ True) ∧ (entB (Mdl.mk M.engine M.clock M.stripes M.reads M.writes M.retry M.fuel M.most M.init M.locks
 M.conds M.progs M.mates M.words M.owners M.all M.queues) t = false → true = canB M t ∧ True)))))) := by kernel_rfl
theorem rg_e_ok (c : Config) (d : Int) : Paid (entryX F (lookC []) 300 Tryz.f128 b128 ⟨[(2,rgC c.locks d)],.i .i64 (regF c.locks d),[]⟩ [.agg (enc4 c),.i .i64 d]) := by
 refine ⟨?_⟩
 rw [rg_e]
 exact ⟨0,rfl,rfl,rfl,rfl,⟨Nat.zero_le _,fun y hy => by simp at hy⟩,trivial⟩
theorem rg_2_ok (ls : List Lock) (d : Int) (k : Nat) (hs : ls.length ≤ 1000) (hk : k ≤ ls.length) (hn : ∀ y ∈ ls.take k,inReg y d = false) : Paid (cutVC F (lookC []) 300 Tryz.f128 b128 ⟨[(2,rgC ls d)],.i .i64 (regF ls d),[]⟩ 2 (rgC ls d) k) := by
 refine ⟨?_⟩
 rw [rg_2]
 refine ⟨fun h => ?_,fun h => ?_⟩
 ·have h := qb h
  have hlt : k < ls.length := by omega
  rw [at1_get hlt]
  have go : inReg ls[k] d = false → ∃ (s : Nat),d = d ∧ ls = ls ∧ (ls.length : Int) = (ls.length : Int) ∧ IntKind.i64.wrap ((k : Int) + 1) = (s : Int) ∧ (s ≤ ls.length ∧ ∀ (y : Lock),y ∈ List.take s ls → inReg y d = false) ∧ ls.length - s < ls.length - k ∧ True := fun e =>
   ⟨k + 1,rfl,rfl,rfl,succ64 (by omega),⟨hlt,all_take hn hlt e⟩,by omega,trivial⟩
  refine ⟨⟨by omega,h⟩,fun e1 => ⟨fun e2 => ⟨fun e3 => ⟨?_,trivial⟩,fun e3 => go (by rw [inReg,e1,e2,e3]; rfl)⟩,fun e2 => go (by rw [inReg,e1,e2]; rfl)⟩,fun e1 => go (by rw [inReg,e1]; rfl)⟩
  have hin : inReg ls[k] d = true := by rw [inReg,e1,e2,e3]; rfl
  have hf : ls.findIdx? (fun x => inReg x d) = some k := by
   rw [List.findIdx?_eq_some_iff_getElem]
   refine ⟨hlt,hin,fun j hj => ?_⟩
   have := hn ls[j] (by rw [List.mem_take_iff_getElem]; exact ⟨j,by omega,rfl⟩)
   rw [this]; simp
  rw [regF,hf]
 ·have h := qc h
  have hk : k = ls.length := by omega
  rw [hk,List.take_length] at hn
  have hf : ls.findIdx? (fun x => inReg x d) = none := by
   rw [List.findIdx?_eq_none_iff]
   exact hn
  rw [regF,hf]
  exact ⟨rfl,trivial⟩
theorem rgOk : CtrOk1 F.S 128 (mkCtr rgD) :=
 mkCtr_paid (fn := Tryz.f128) (body := b128) (ctr := lookC []) codOk noExt hookLow noneOk Tryz.func128 rfl rfl rfl rgD 300 (fun (x : Config × Int × Unit) => [(2,rgC x.1.locks x.2.1)]) (show 2 ≤ Tryz.f128.ntmps by decide) (show Tryz.f128.ntmps ≤ 512 by decide) (by kernel_rfl) (fun _ _ => ⟨rfl,rfl⟩)
  (fun (x : Config × Int × Unit) hp => rg_e_ok x.1 x.2.1) (fun (x : Config × Int × Unit) hp p hm s hI => by
   rw [List.mem_singleton] at hm
   subst hm
   exact rg_2_ok x.1.locks x.2.1 s hp hI.1 hI.2)
theorem ho_e_ok (x : One) (op lock : Int) : Paid (entryX F (lookC []) 300 Tryz.f127 b127 ⟨[(2,hoC x.opn op lock)],.b (holdsB x.opn op lock),[]⟩ [.fp (enc12 x),.i .i64 op,.i .i64 lock]) := by
 refine ⟨?_⟩
 rw [ho_e]
 exact ⟨0,rfl,rfl,rfl,rfl,rfl,⟨Nat.zero_le _,fun y hy => by simp at hy⟩,trivial⟩
theorem ho_2_ok (l : List Held) (op lock : Int) (k : Nat) (hs : l.length ≤ 1000) (hk : k ≤ l.length) (hn : ∀ h ∈ l.take k,(h.lock == lock && (op == 8 || !h.read)) = false) : Paid (cutVC F (lookC []) 300 Tryz.f127 b127 ⟨[(2,hoC l op lock)],.b (holdsB l op lock),[]⟩ 2 (hoC l op lock) k) := by
 refine ⟨?_⟩
 rw [ho_2]
 refine ⟨fun h => ?_,fun h => ?_⟩
 ·have h := qb h
  have hlt : k < l.length := by omega
  rw [at6_get hlt]
  have yes : (l[k].lock == lock && (op == 8 || !l[k].read)) = true → true = holdsB l op lock := fun e => by
   rw [holdsB,eq_comm,List.any_eq_true]
   exact ⟨l[k],List.getElem_mem hlt,e⟩
  have go : (l[k].lock == lock && (op == 8 || !l[k].read)) = false → ∃ (s : Nat),op = op ∧ lock = lock ∧ l = l ∧ (l.length : Int) = (l.length : Int) ∧ IntKind.i64.wrap ((k : Int) + 1) = (s : Int) ∧ (s ≤ l.length ∧ ∀ (h : Held),h ∈ List.take s l → (h.lock == lock && (op == 8 || !h.read)) = false) ∧ l.length - s < l.length - k ∧ True := fun e =>
   ⟨k + 1,rfl,rfl,rfl,rfl,succ64 (by omega),⟨hlt,all_take hn hlt e⟩,by omega,trivial⟩
  refine ⟨⟨by omega,h⟩,fun e1 => ⟨fun e2 => ⟨yes (by rw [e1,e2]; rfl),trivial⟩,fun e2 => ⟨fun e3 => ⟨yes (by rw [e1,e2,e3]; rfl),trivial⟩,fun e3 => go (by rw [e1,e2,e3]; rfl)⟩⟩,fun e1 => go (by rw [e1]; rfl)⟩
 ·have h := qc h
  have hk : k = l.length := by omega
  rw [hk,List.take_length] at hn
  refine ⟨?_,trivial⟩
  rw [holdsB,eq_comm,List.any_eq_false]
  intro x hx
  rw [hn x hx]
  simp
theorem hoOk : CtrOk1 F.S 127 (mkCtr hoD) :=
 mkCtr_paid (fn := Tryz.f127) (body := b127) (ctr := lookC []) codOk noExt hookLow noneOk Tryz.func127 rfl rfl rfl hoD 300 (fun (x : One × Int × Int × Unit) => [(2,hoC x.1.opn x.2.1 x.2.2.1)]) (show 3 ≤ Tryz.f127.ntmps by decide) (show Tryz.f127.ntmps ≤ 512 by decide) (by kernel_rfl) (fun _ _ => ⟨rfl,rfl⟩)
  (fun (x : One × Int × Int × Unit) hp => ho_e_ok x.1 x.2.1 x.2.2.1) (fun (x : One × Int × Int × Unit) hp p hm s hI => by
   rw [List.mem_singleton] at hm
   subst hm
   exact ho_2_ok x.1.opn x.2.1 x.2.2.1 s hp hI.1 hI.2)
section
variable (all : List One) (lock : Int) (rd : Bool)
theorem fr_e_ok (M : Mdl) : Paid (entryX F (lookC []) 300 Tryz.f57 b57 ⟨[(2,frC2 M.all lock rd),(5,frC5 M.all lock rd)],.b (freeB M.all lock rd),[]⟩ [.fp (enc13 M),.i .i64 lock,.b rd]) := by
 refine ⟨?_⟩
 rw [fr_e]
 exact ⟨0,rfl,rfl,rfl,rfl,rfl,⟨Nat.zero_le _,fun y hy => by simp at hy⟩,trivial⟩
theorem fr_2_ok (k : Nat) (hk : k ≤ all.length) (hn : ∀ y ∈ all.take k,y.opn.all (lockFree lock rd) = true) : Paid (cutVC F (lookC []) 300 Tryz.f57 b57 ⟨[(2,frC2 all lock rd),(5,frC5 all lock rd)],.b (freeB all lock rd),[]⟩ 2 (frC2 all lock rd) k) := by
 refine ⟨?_⟩
 rw [fr_2]
 refine ⟨fun h => ?_,fun h => ?_⟩
 ·have h := qb h
  exact ⟨⟨by omega,h⟩,(k,0),rfl,rfl,rfl,rfl,rfl,rfl,rfl,rfl,⟨by show k < all.length; omega,hn,Nat.zero_le _,fun y hy => by simp at hy⟩,by show 2000 * (all.length - k) - 1 - 0 < 2000 * (all.length - k); omega,trivial⟩
 ·have h := qc h
  have hk : k = all.length := by omega
  rw [hk,List.take_length] at hn
  refine ⟨?_,trivial⟩
  rw [freeB,eq_comm,List.all_eq_true]
  exact hn
theorem fr_5_ok (hs : all.length ≤ 1000) (ho : ∀ y ∈ all,y.opn.length ≤ 1000) (k j : Nat) (hk : k < all.length) (hn : ∀ y ∈ all.take k,y.opn.all (lockFree lock rd) = true) (hj : j ≤ (at12 all k).opn.length) (hm : ∀ h ∈ (at12 all k).opn.take j,lockFree lock rd h = true) :
 Paid (cutVC F (lookC []) 300 Tryz.f57 b57 ⟨[(2,frC2 all lock rd),(5,frC5 all lock rd)],.b (freeB all lock rd),[]⟩ 5 (frC5 all lock rd) (k,j)) := by
 refine ⟨?_⟩
 rw [fr_5]
 have hmem : at12 all k ∈ all := by rw [at12_get hk]; exact List.getElem_mem hk
 have hol := ho _ hmem
 generalize hx : at12 all (k : Int) = x at *
 refine ⟨fun h => ?_,fun h => ?_⟩
 ·have h := qb h
  have hlt : j < x.opn.length := by omega
  rw [at6_get hlt]
  have no : lockFree lock rd x.opn[j] = false → false = freeB all lock rd := fun e => by
   rw [freeB,eq_comm,List.all_eq_false]
   refine ⟨x,hmem, ?_⟩
   rw [Bool.not_eq_true,List.all_eq_false]
   exact ⟨x.opn[j],List.getElem_mem hlt,by rw [e]; simp⟩
  have go : lockFree lock rd x.opn[j] = true → ∃ (s : Nat × Nat),lock = lock ∧ rd = rd ∧ all = all ∧ (all.length : Int) = (all.length : Int) ∧ (k : Int) = (s.fst : Int) ∧ x.opn = (at12 all (s.fst : Int)).opn ∧ (x.opn.length : Int) = ((at12 all (s.fst : Int)).opn.length : Int) ∧ IntKind.i64.wrap ((j : Int) + 1) = (s.snd : Int) ∧
   (s.fst < all.length ∧ (∀ (y : One),y ∈ List.take s.fst all → y.opn.all (lockFree lock rd) = true) ∧ s.snd ≤ (at12 all (s.fst : Int)).opn.length ∧ ∀ (h : Held),h ∈ List.take s.snd (at12 all (s.fst : Int)).opn → lockFree lock rd h = true) ∧ 2000 * (all.length - s.fst) - 1 - s.snd < 2000 * (all.length - k) - 1 - j ∧ True := fun e =>
   ⟨(k,j + 1),rfl,rfl,rfl,rfl,rfl,by rw [hx],by rw [hx],succ64 (by omega),⟨hk,hn,by rw [hx]; exact hlt,by rw [hx]; exact all_take hm hlt e⟩,by show 2000 * (all.length - k) - 1 - (j + 1) < 2000 * (all.length - k) - 1 - j; omega,trivial⟩
  refine ⟨⟨by omega,h⟩,fun e1 => ⟨fun e2 => ⟨fun e3 => ⟨no ?_,trivial⟩,fun e3 => go ?_⟩,fun e2 => ⟨no ?_,trivial⟩⟩,fun e1 => go ?_⟩
  ·rw [lockFree,e1,e2]
   have : x.opn[j].read = false := by simpa using e3
   rw [this]; rfl
  ·rw [lockFree,e1,e2]
   have : x.opn[j].read = true := by simpa using e3
   rw [this]; rfl
  ·rw [lockFree,e1,e2]; rfl
  ·rw [lockFree,e1]; rfl
 ·have h := qc h
  have hj : j = x.opn.length := by omega
  rw [hj,List.take_length] at hm
  refine ⟨k + 1,rfl,rfl,rfl,rfl,succ64 (by omega),⟨hk,all_take hn hk ?_⟩,by omega,trivial⟩
  have e : all[k] = x := by rw [← hx,at12_get hk]
  rw [e,List.all_eq_true]
  exact hm
end
theorem frOk : CtrOk1 F.S 57 (mkCtr frD) :=
 mkCtr_paid (fn := Tryz.f57) (body := b57) (ctr := lookC []) codOk noExt hookLow noneOk Tryz.func57 rfl rfl rfl frD 300 (fun (x : Mdl × Int × Bool × Unit) => [(2,frC2 x.1.all x.2.1 x.2.2.1),(5,frC5 x.1.all x.2.1 x.2.2.1)]) (show 3 ≤ Tryz.f57.ntmps by decide) (show Tryz.f57.ntmps ≤ 512 by decide) (by kernel_rfl) (fun _ _ => ⟨rfl,rfl⟩)
  (fun (x : Mdl × Int × Bool × Unit) hp => fr_e_ok x.2.1 x.2.2.1 x.1) (fun (x : Mdl × Int × Bool × Unit) hp p hm s hI => by
   simp only [List.mem_cons,List.not_mem_nil,or_false] at hm
   rcases hm with rfl | rfl
   ·exact fr_2_ok x.1.all x.2.1 x.2.2.1 s hI.1 hI.2
   ·exact fr_5_ok x.1.all x.2.1 x.2.2.1 hp.1 hp.2 s.1 s.2 hI.1 hI.2.1 hI.2.2.1 hI.2.2.2)
theorem en_ok (M : Mdl) (t : Int) (h1 : 0 ≤ t ∧ t < M.all.length) (h2 : t < M.progs.length) (h3 : 0 ≤ (at12 M.all t).at_ ∧ (at12 M.all t).at_ < (at3 M.progs t).length) : Paid (entryX F (lookC []) 300 Tryz.f58 b58 ⟨[],.b (entB M t),[]⟩ [.fp (enc13 M),.i .i64 t]) := by
 refine ⟨?_⟩
 rw [en_e]
 exact ⟨h1,fun e1 => ⟨fun e2 => ⟨⟨h1.1,h2⟩,h3,by rw [entB,e1,e2]; rfl,trivial⟩,fun e2 => ⟨by rw [entB,e1,e2]; rfl,trivial⟩⟩,fun e1 => ⟨by rw [entB,e1]; rfl,trivial⟩⟩
theorem enOk : CtrOk1 F.S 58 (mkCtr enD) :=
 mkCtr_paid (fn := Tryz.f58) (body := b58) (ctr := lookC []) codOk noExt hookLow noneOk Tryz.func58 rfl rfl rfl enD 300 (fun _ => []) (show 2 ≤ Tryz.f58.ntmps by decide) (show Tryz.f58.ntmps ≤ 512 by decide) (by kernel_rfl) (fun _ _ => ⟨rfl,rfl⟩)
  (fun (x : Mdl × Int × Unit) hp => en_ok x.1 x.2.1 hp.1 hp.2.1 hp.2.2) (fun x hp p hm => by cases hm)
theorem ca_ok (M : Mdl) (t : Int) (hM : CanOk M) : Paid (entryX F (lookC v2) 400 Tryz.f18 b18 ⟨[],.b (canB M t),[]⟩ [.fp (enc13 M),.i .i64 t]) := by
 refine ⟨?_⟩
 rw [ca_e]
 have no : (t < 0 ∨ t ≥ M.all.length ∨ (at12 M.all t).status ≠ 0) → false = canB M t ∧ True := fun h => ⟨by rw [canB,if_pos h],trivial⟩
 refine ⟨fun e => no (.inl (qb e)),fun e1 => ⟨fun e => no (.inr (.inl (qb e))),fun e2 => ?_⟩⟩
 have e1 := qc e1
 have e2 := qc e2
 have ht : 0 ≤ t ∧ t < (M.all.length : Int) := ⟨by omega,by omega⟩
 refine ⟨ht,fun e => no (.inr (.inr (by simpa using e))),fun e3 => ?_⟩
 have e3 : (at12 M.all t).status = 0 := by simpa using e3
 have c1 : ¬ (t < 0 ∨ t ≥ M.all.length ∨ (at12 M.all t).status ≠ 0) := by rintro (h | h | h); exact e1 h; exact e2 h; exact h e3
 obtain ⟨n,rfl⟩ := Int.eq_ofNat_of_zero_le ht.1
 have hn : n < M.all.length := by have := ht.2; omega
 obtain ⟨r1,r2,r3⟩ := hM.run n hn e3
 have hp : ((n : Nat) : Int) < (M.progs.length : Int) := by rw [← hM.len]; exact ht.2
 refine ⟨ht,fun e4 => ?_,fun e4 => ?_⟩
 ·have e4 := qb e4
  exact ⟨⟨e4,r1⟩,⟨hM.small,hM.opn⟩,by rw [canB,if_neg c1,if_pos e4],trivial⟩
 ·have e4 := qc e4
  refine ⟨⟨ht,hp,r2,r3⟩,fun e5 => ⟨⟨ht.1,hp⟩,⟨r2,r3⟩,⟨hM.small,hM.opn⟩, ?_,trivial⟩,fun e5 => ⟨?_,trivial⟩⟩
  ·have e5 : entB M (n : Int) = true := e5
   rw [canB,if_neg c1,if_neg e4,if_pos e5]
   rfl
  ·have e5 : entB M (n : Int) = false := e5
   rw [canB,if_neg c1,if_neg e4,if_neg (by rw [e5]; simp)]
theorem v2Ok : CtrOk F.S (lookC v2) := lookC_ok fun p h => by
 have h : p ∈ [_,_] := h
 simp only [List.mem_cons,List.not_mem_nil,or_false] at h
 rcases h with rfl | rfl
 ·exact frOk
 ·exact enOk
theorem caOk : CtrOk1 F.S 18 (mkCtr caD) :=
 mkCtr_paid (fn := Tryz.f18) (body := b18) (ctr := lookC v2) codOk noExt hookLow v2Ok Tryz.func18 rfl rfl rfl caD 400 (fun _ => []) (show 2 ≤ Tryz.f18.ntmps by decide) (show Tryz.f18.ntmps ≤ 512 by decide) (by kernel_rfl) (fun _ _ => ⟨rfl,rfl⟩)
  (fun (x : Mdl × Int × Unit) hp => ca_ok x.1 x.2.1 hp) (fun x hp p hm => by cases hm)
end Go.Proofs.YtcholkmididfmaaGreatDoor

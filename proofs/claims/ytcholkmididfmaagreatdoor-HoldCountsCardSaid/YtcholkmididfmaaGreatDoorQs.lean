/- Pick: its family. -/
import Derived.Test.YtcholkmididfmaaGreatDoorDw
import Derived.Test.YtcholkmididfmaaGreatDoorPk
namespace Go.Proofs.YtcholkmididfmaaGreatDoor
open Go.RowKit Go.Am Go.Sy
set_option linter.unusedVariables false
structure PkS where
 K : MK
 S : MT
structure PkI (n t : Nat) (s : PkS) : Prop where
 can : CanOk (viewM s.K n s.S)
 aw : t < n → (s.S.th t).awake < 0
 ml : n ≤ s.K.m.length
 ds : t < n → canB (viewM s.K n s.S) t = true → DsI n t ⟨s.K,setM s.S t (fuT (s.S.th t) (IntKind.i64.wrap ((s.S.th t).fuel - 1))),at2 (at3 s.K.c.progs t) (s.S.th t).at_⟩
def pkD (n t N : Nat) : FrD cod := ⟨N,mFoot n,PkS,PkI n t,fun s => [.ptr 0 0,li t],fun s => mIn s.K n s.S,[⟨MK × MT × Bool,fun s r => r.1 = s.K ∧ r.2.1 = pickM s.K n t s.S ∧ r.2.2 = canB (viewM s.K n s.S) t,fun r => .b r.2.2,fun r h => mOut r.1 n N r.2.1 h⟩],fun _ _ => 0⟩
noncomputable def b17 : Code := Tryz.f17.body.getD .skip
noncomputable def w3 (n t : Nat) : List (FuncId × Ctr cod) := [(18,mkCtr caD),(56,doesCtr n t)]
noncomputable def w4 : List (FuncId × Ctr cod) := [(18,mkCtr caD),(56,noCtr)]
def mLp (n N : Nat) (f : Nat → Option Ob) (K : MK) (S : MT) (b : Bool) (Q : MK × MT × Bool → Prop) : Prop :=
 ∃ r : MK × MT × Bool,S.w = r.2.1.w ∧ S.o = r.2.1.o ∧ b = r.2.2 ∧ S.q 0 = r.2.1.q 0 ∧ S.q 1 = r.2.1.q 1 ∧ S.q 2 = r.2.1.q 2 ∧ thoE S.th r.2.1.th n (kE K r.1 (oB f n 5 N (Q r ∧ True)))
theorem mLp_ok {n N : Nat} {f : Nat → Option Ob} {K : MK} {S : MT} {b : Bool} {Q : MK × MT × Bool → Prop} (h : Q (K,S,b)) : mLp n N f K S b Q :=
 ⟨(K,S,b),rfl,rfl,rfl,rfl,rfl,rfl,thoE_ok _ ⟨rfl,rfl,rfl,rfl,rfl,rfl,rfl,rfl,rfl,rfl,rfl,rfl,rfl,oB_ok _ _ _ ⟨h,trivial⟩ _⟩ _⟩
section
variable (n t N : Nat) (s : PkS) (f : Nat → Option Ob)
def pkL (K : MK) (S : MT) (b : Bool) : Prop := mLp n N f K S b fun r => r.1 = s.K ∧ r.2.1 = pickM s.K n t s.S ∧ r.2.2 = canB (viewM s.K n s.S) t
def dsCall (K : MK) (S : MT) (x : Instr) (cont : MK × MT → Prop) : Prop := askP N n 5 f N (∃ z : AcS,S.w = z.S.w ∧ S.o = z.S.o ∧ S.q 0 = z.S.q 0 ∧ S.q 1 = z.S.q 1 ∧ S.q 2 = z.S.q 2 ∧ lsE S.th z.S.th n
 (AVal.int .i64 t = AVal.int .i64 t ∧ x.op = z.x.op ∧ x.a = z.x.a ∧ x.b = z.x.b ∧ x.c = z.x.c ∧ x.n = z.x.n ∧ thsE S.th z.S.th n (kE K z.K (DsI n t z ∧ (∀ y : MK × MT,y.1 = z.K ∧ y.2 = doesM z.K t z.S z.x → cont y) ∧ True))))
def stuckT (S : MT) : Prop := ∃ r : MK × MT × Bool,S.w = r.2.1.w ∧ S.o = r.2.1.o ∧ true = r.2.2 ∧ S.q 0 = r.2.1.q 0 ∧ S.q 1 = r.2.1.q 1 ∧ S.q 2 = r.2.1.q 2 ∧ thoE S.th r.2.1.th t (thE (S.th t) (r.2.1.th t) False)
def endB (K : MK) (S : MT) (L : MT → Prop) : Prop :=
 (((S.th t).status == 0) = true → bnN t K.c.progs.length ((decide ((S.th t).at_ ≥ ((at3 K.c.progs t).length : Int)) = true → L (setM S t (stT (S.th t) 1))) ∧ (decide ((S.th t).at_ ≥ ((at3 K.c.progs t).length : Int)) = false → L S))) ∧
 (((S.th t).status == 0) = false → L S)
def goB : Prop := bnN t s.K.c.progs.length (((0 : Int) ≤ (s.S.th t).at_ ∧ (s.S.th t).at_ < ((at3 s.K.c.progs t).length : Int)) ∧
 dsCall n t N f s.K (setM s.S t (fuT (s.S.th t) (IntKind.i64.wrap ((s.S.th t).fuel - 1)))) (at2 (at3 s.K.c.progs t) (s.S.th t).at_) fun y => endB t y.1 y.2 fun S => pkL n t N s f y.1 S true)
def pkP : Prop := caD.pre (viewM s.K n s.S,(t : Int),()) ∧ ((!canB (viewM s.K n s.S) t) = true → pkL n t N s f s.K s.S false) ∧ ((!canB (viewM s.K n s.S) t) = false →
 (decide ((s.S.th t).awake ≥ 0) = true → ((0 : Int) ≤ (s.S.th t).awake ∧ (s.S.th t).awake < (s.K.c.conds.length : Int)) ∧ endB t s.K (setM s.S t (awT (s.S.th t) (-1))) (stuckT t)) ∧
 (decide ((s.S.th t).awake ≥ 0) = false → (((s.S.th t).fuel == 0) = true → pkL n t N s f s.K (stopM s.S t 3) true) ∧ (((s.S.th t).fuel == 0) = false → goB n t N s f)))
def pkN : Prop := caD.pre (viewM s.K n s.S,(t : Int),()) ∧ ((!canB (viewM s.K n s.S) t) = true → pkL n t N s f s.K s.S false) ∧ ((!canB (viewM s.K n s.S) t) = false → False)
end
abbrev pkQ (n t : Nat) : Prop := ∀ (s : PkS) (f : Nat → Option Ob),Go.Sy.Tree.holds (vcC (goC (w3 n t) Tryz.f17 b17) (pkD n t 40) s (hOf f 40)) = pkP n t 40 s f
abbrev pnQ (n t : Nat) : Prop := ∀ (s : PkS) (f : Nat → Option Ob),Go.Sy.Tree.holds (vcC (goC w4 Tryz.f17 b17) (pkD n t 40) s (hOf f 40)) = pkN n t 40 s f
end Go.Proofs.YtcholkmididfmaaGreatDoor

/- hold's model in memory: so many threads, each list an object of its own. -/
import Derived.Test.YtcholkmididfmaaGreatDoorCa
import Derived.Test.YtcholkmididfmaaGreatDoorLib5
namespace Go.Proofs.YtcholkmididfmaaGreatDoor
open Go.RowKit Go.Am Go.Sy
set_option linter.unusedVariables false
abbrev V := SV cod.T
abbrev Ob := Go.Sy.Obj cod.T
def iv (n : Int) : V := .i .i64 n
def li (n : Int) : V := .a (.int .i64 n)
structure MT where
 w : List Int
 o : List Int
 th : Nat → One
 q : Nat → List Int
structure MK where
 c : Config
 m : List (List Int)
def thC (x : One) (k : Nat) : List V := [iv x.at_,iv x.fuel,iv x.status,iv x.r0,iv x.r1,iv x.r2,iv x.r3,iv x.awake,.R k,.R (k + 1)]
def thsC (f : Nat → One) (b : Nat) : Nat → List V
 | 0 => []
 | k + 1 => thsC f b k ++ thC (f k) (b + 2 * k)
def thsO (f : Nat → One) (r : Nat) : Nat → List Ob
 | 0 => []
 | k + 1 => thsO f r k ++ [.rows 6 (f k).opn false (r + 2 * k),.rows 0 (f k).log false (r + 2 * k + 1)]
def mBase (K : MK) (n b : Nat) (S : MT) : List Ob :=
 [.cells (enc4 K.c ++ [.tl (T := T) 5 K.m,.R 1,.R 2,.sl 10 3 0 n n false,.sl 1 4 0 3 3 true]),.rows 0 S.w false 1,.rows 0 S.o false 2,.cells (thsC S.th (b + 3) n),.cells [.R b,.R (b + 1),.R (b + 2)]]
def mLists (n : Nat) (S : MT) : List Ob := [.rows 0 (S.q 0) false 5,.rows 0 (S.q 1) false 6,.rows 0 (S.q 2) false 7] ++ thsO S.th 8 n
def mIn (K : MK) (n : Nat) (S : MT) (h : SH cod) : SH cod := (mBase K n 5 S ++ mLists n S).map some ++ h.drop (8 + 2 * n)
def mOut (K : MK) (n N : Nat) (S : MT) (h : SH cod) : SH cod := (mBase K n N S).map some ++ List.replicate (3 + 2 * n) none ++ h.drop (8 + 2 * n) ++ (mLists n S).map some
def mFoot (n j : Nat) : Bool := Nat.blt j (8 + 2 * n)
def updT (f : Nat → One) (t : Nat) (x : One) : Nat → One := fun i => if Nat.beq i t then x else f i
def regs (x : One) : R4 := ⟨x.r0,x.r1,x.r2,x.r3⟩
def setR (x : One) (r : R4) : One := ⟨x.at_,x.fuel,x.status,r.a,r.b,r.c,r.d,x.awake,x.opn,x.log⟩
def accW (K : MK) (S : MT) (t : Nat) (x : Instr) : Int := IntKind.i64.wrap (sel4 (regs (S.th t)) x.b + x.n)
def accNo (K : MK) (S : MT) (t : Nat) (x : Instr) : Bool :=
 let d := accW K S t x
 let o := at0 S.o d
 decide (d < 0) || (decide (d ≥ S.w.length) || ((decide ((S.th t).opn.length > 0) && !holdsB (S.th t).opn x.op (regF K.c.locks d)) ||
  (if x.op = 10 then o != -1 && o != t else if x.op = 11 then o != t else o != t && (o != -1 || ((S.th t).opn.length : Int) == 0))))
def accM (K : MK) (S : MT) (t : Nat) (x : Instr) : MT :=
 let d := accW K S t x
 if accNo K S t x = true then S
 else if x.op = 10 then { S with o := S.o.set d.toNat t }
 else if x.op = 11 then { S with o := S.o.set d.toNat (-1) }
 else if x.op = 8 then { S with th := updT S.th t (setR (S.th t) (set4 (regs (S.th t)) x.a (at0 S.w d))) }
 else { S with w := S.w.set d.toNat (sel4 (regs (S.th t)) x.a) }
structure AcS where
 K : MK
 S : MT
 x : Instr
structure AcI (n : Nat) (t : Nat) (s : AcS) : Prop where
 b : 0 ≤ s.x.b ∧ s.x.b < 4
 a : s.x.op = 8 ∨ s.x.op = 9 → 0 ≤ s.x.a ∧ s.x.a < 4
 ops : s.x.op = 8 ∨ s.x.op = 9 ∨ s.x.op = 10 ∨ s.x.op = 11
 own : s.S.o.length = s.S.w.length
 lk : s.K.c.locks.length ≤ 1000
 op : ((s.S.th t).opn.length ≤ 1000)
theorem AcI.a9 {n t : Nat} {s : AcS} (h : AcI n t s) (n8 : s.x.op ≠ 8) (n10 : s.x.op ≠ 10) (n11 : s.x.op ≠ 11) : 0 ≤ s.x.a ∧ s.x.a < 4 := h.a (by have := h.ops; omega)
def accD (n t N : Nat) : FrD cod := ⟨N,mFoot n,AcS,AcI n t,fun s => [.ptr 0 0,li t,.agg (enc2 s.x)],fun s => mIn s.K n s.S,[⟨MK × MT × Bool,fun s r => r.1 = s.K ∧ r.2.1 = accM s.K s.S t s.x ∧ r.2.2 = !accNo s.K s.S t s.x,fun r => .b r.2.2,fun r h => mIn r.1 n r.2.1 h⟩],fun _ _ => 0⟩
noncomputable def b90 : Code := Tryz.f90.body.getD .skip
noncomputable def w1 : List (FuncId × Ctr cod) := [(126,mkCtr adD),(128,mkCtr rgD),(127,mkCtr hoD)]
noncomputable def goC (l : List (FuncId × Ctr cod)) (fn : Func) (b : Code) : Ctr cod := loopCtr F (lookC l) 2000 fn b (fun _ _ => []) (fun _ _ => 0)
noncomputable def vcC (c : Ctr cod) (D : FrD cod) (s : D.St) (h : SH cod) : Go.Sy.Tree := c 0 (D.args s) (D.heap s h) (frFin D s h)
def thE (x y : One) (P : Prop) : Prop := x.at_ = y.at_ ∧ x.fuel = y.fuel ∧ x.status = y.status ∧ x.r0 = y.r0 ∧ x.r1 = y.r1 ∧ x.r2 = y.r2 ∧ x.r3 = y.r3 ∧ x.awake = y.awake ∧ P
def thsE (f g : Nat → One) : Nat → Prop → Prop
 | 0,P => P
 | k + 1,P => thsE f g k (thE (f k) (g k) P)
def lsE (f g : Nat → One) : Nat → Prop → Prop
 | 0,P => P
 | k + 1,P => lsE f g k ((f k).opn = (g k).opn ∧ (f k).log = (g k).log ∧ P)
def kE (K K' : MK) (P : Prop) : Prop := K.c.engine = K'.c.engine ∧ K.c.clock = K'.c.clock ∧ K.c.stripes = K'.c.stripes ∧ K.c.reads = K'.c.reads ∧ K.c.writes = K'.c.writes ∧ K.c.retry = K'.c.retry ∧ K.c.fuel = K'.c.fuel ∧ K.c.most = K'.c.most ∧
 K.c.init = K'.c.init ∧ K.c.locks = K'.c.locks ∧ K.c.conds = K'.c.conds ∧ K.c.progs = K'.c.progs ∧ K.m = K'.m ∧ P
def oE (f : Nat → Option Ob) (lo : Nat) : Nat → Prop → Prop
 | 0,P => P
 | k + 1,P => bif Nat.blt k lo then oE f lo k P else (f k = f k ∧ oE f lo k P)
def hOf (f : Nat → Option Ob) (N : Nat) : SH cod := (List.range N).map f
def mL (n N : Nat) (f : Nat → Option Ob) (K : MK) (S : MT) (b : Bool) (Q : MK × MT × Bool → Prop) : Prop :=
 ∃ r : MK × MT × Bool,S.w = r.2.1.w ∧ S.o = r.2.1.o ∧ S.q 0 = r.2.1.q 0 ∧ S.q 1 = r.2.1.q 1 ∧ S.q 2 = r.2.1.q 2 ∧ lsE S.th r.2.1.th n (b = r.2.2 ∧ thsE S.th r.2.1.th n (kE K r.1 (oE f (8 + 2 * n) N (Q r ∧ True))))
theorem thsE_ok (f : Nat → One) {P : Prop} (h : P) : ∀ n,thsE f f n P
 | 0 => h
 | n + 1 => by
  unfold thsE
  have h' : thE (f n) (f n) P := ⟨rfl,rfl,rfl,rfl,rfl,rfl,rfl,rfl,h⟩
  exact thsE_ok f h' n
theorem lsE_ok (f : Nat → One) {P : Prop} (h : P) : ∀ n,lsE f f n P
 | 0 => h
 | n + 1 => by
  unfold lsE
  exact lsE_ok f ⟨rfl,rfl,h⟩ n
theorem oE_ok (f : Nat → Option Ob) (lo : Nat) {P : Prop} (h : P) : ∀ n,oE f lo n P
 | 0 => h
 | n + 1 => by
  unfold oE
  cases Nat.blt n lo with
  | true => exact oE_ok f lo h n
  | false => exact ⟨rfl,oE_ok f lo h n⟩
theorem mL_ok {n N : Nat} {f : Nat → Option Ob} {K : MK} {S : MT} {b : Bool} {Q : MK × MT × Bool → Prop} (h : Q (K,S,b)) : mL n N f K S b Q :=
 ⟨(K,S,b),rfl,rfl,rfl,rfl,rfl,lsE_ok _ ⟨rfl,thsE_ok _ ⟨rfl,rfl,rfl,rfl,rfl,rfl,rfl,rfl,rfl,rfl,rfl,rfl,rfl,oE_ok _ _ ⟨h,trivial⟩ _⟩ _⟩ _⟩
def bn (d : Int) (l : List Int) (P : Prop) : Prop := ((0 : Int) ≤ d ∧ d < (l.length : Int)) ∧ ((0 : Int) ≤ d ∧ d < (l.length : Int)) ∧ P
section
variable (n t N : Nat) (s : AcS) (f : Nat → Option Ob)
def acL (S : MT) (b : Bool) : Prop := mL n N f s.K S b fun r => r.1 = s.K ∧ r.2.1 = accM s.K s.S t s.x ∧ r.2.2 = !accNo s.K s.S t s.x
def acT (d : Int) : Prop :=
 ((s.x.op == 8) = true → bn d s.S.w (st4P (regs (s.S.th t)) s.x.a (at0 s.S.w d) fun r => acL n t N s f { s.S with th := updT s.S.th t (setR (s.S.th t) r) } true)) ∧
 ((s.x.op == 8) = false → at4P (regs (s.S.th t)) s.x.a fun v => bn d s.S.w (acL n t N s f { s.S with w := s.S.w.set d.toNat v } true))
def acR (d o : Int) : Prop := bn d s.S.o (
 ((s.x.op == 10) = true → ((o != -1) = true → ((o != t) = true → acL n t N s f s.S false) ∧ ((o != t) = false → bn d s.S.o (acL n t N s f { s.S with o := s.S.o.set d.toNat t } true))) ∧ ((o != -1) = false → bn d s.S.o (acL n t N s f { s.S with o := s.S.o.set d.toNat t } true))) ∧
 ((s.x.op == 10) = false → ((s.x.op == 11) = true → ((o != t) = true → acL n t N s f s.S false) ∧ ((o != t) = false → bn d s.S.o (acL n t N s f { s.S with o := s.S.o.set d.toNat (-1) } true))) ∧
   ((s.x.op == 11) = false → ((o != t) = true → ((o != -1) = true → acL n t N s f s.S false) ∧ ((o != -1) = false → ((((s.S.th t).opn.length : Int) == 0) = true → acL n t N s f s.S false) ∧ ((((s.S.th t).opn.length : Int) == 0) = false → acT n t N s f d))) ∧ ((o != t) = false → acT n t N s f d))))
def acP (d : Int) : Prop := adD.pre (s.x,regs (s.S.th t),()) ∧ (decide (d < 0) = true → acL n t N s f s.S false) ∧ (decide (d < 0) = false → (decide (d ≥ (s.S.w.length : Int)) = true → acL n t N s f s.S false) ∧ (decide (d ≥ (s.S.w.length : Int)) = false →
 (decide (((s.S.th t).opn.length : Int) > 0) = true → rgD.pre (s.K.c,d,()) ∧ hoD.pre (s.S.th t,s.x.op,regF s.K.c.locks d,()) ∧ ((!holdsB (s.S.th t).opn s.x.op (regF s.K.c.locks d)) = true → acL n t N s f s.S false) ∧ ((!holdsB (s.S.th t).opn s.x.op (regF s.K.c.locks d)) = false → acR n t N s f d (at0 s.S.o d))) ∧
 (decide (((s.S.th t).opn.length : Int) > 0) = false → acR n t N s f d (at0 s.S.o d))))
end
end Go.Proofs.YtcholkmididfmaaGreatDoor
namespace Go.Proofs.YtcholkmididfmaaGreatDoor
open Go.RowKit Go.Am Go.Sy
set_option maxRecDepth 100000
theorem ac_10 (s : AcS) (f : Nat → Option Ob) : Go.Sy.Tree.holds (vcC (goC w1 Tryz.f90 b90) (accD 1 0 48) s (hOf f 48)) = acP 1 0 48 s f (accW s.K s.S 0 s.x) := by kernel_rfl
theorem ac_20 (s : AcS) (f : Nat → Option Ob) : Go.Sy.Tree.holds (vcC (goC w1 Tryz.f90 b90) (accD 2 0 48) s (hOf f 48)) = acP 2 0 48 s f (accW s.K s.S 0 s.x) := by kernel_rfl
theorem ac_21 (s : AcS) (f : Nat → Option Ob) : Go.Sy.Tree.holds (vcC (goC w1 Tryz.f90 b90) (accD 2 1 48) s (hOf f 48)) = acP 2 1 48 s f (accW s.K s.S 1 s.x) := by kernel_rfl
theorem ac_30 (s : AcS) (f : Nat → Option Ob) : Go.Sy.Tree.holds (vcC (goC w1 Tryz.f90 b90) (accD 3 0 48) s (hOf f 48)) = acP 3 0 48 s f (accW s.K s.S 0 s.x) := by kernel_rfl
theorem ac_31 (s : AcS) (f : Nat → Option Ob) : Go.Sy.Tree.holds (vcC (goC w1 Tryz.f90 b90) (accD 3 1 48) s (hOf f 48)) = acP 3 1 48 s f (accW s.K s.S 1 s.x) := by kernel_rfl
theorem ac_32 (s : AcS) (f : Nat → Option Ob) : Go.Sy.Tree.holds (vcC (goC w1 Tryz.f90 b90) (accD 3 2 48) s (hOf f 48)) = acP 3 2 48 s f (accW s.K s.S 2 s.x) := by kernel_rfl
end Go.Proofs.YtcholkmididfmaaGreatDoor

/- does: an instruction done whole. -/
import Derived.Test.YtcholkmididfmaaGreatDoorWo
namespace Go.Proofs.YtcholkmididfmaaGreatDoor
open Go.RowKit Go.Am Go.Sy
set_option linter.unusedVariables false
def goT (x : One) (a : Int) (r : R4) : One := ⟨a,x.fuel,x.status,r.a,r.b,r.c,r.d,x.awake,x.opn,x.log⟩
def opT (x : One) (l : List Held) : One := ⟨x.at_,x.fuel,x.status,x.r0,x.r1,x.r2,x.r3,x.awake,l,x.log⟩
def lgT (x : One) (l : List Int) : One := ⟨x.at_,x.fuel,x.status,x.r0,x.r1,x.r2,x.r3,x.awake,x.opn,l⟩
def setM (S : MT) (t : Nat) (x : One) : MT := { S with th := updT S.th t x }
def stopM (S : MT) (t : Nat) (st : Int) : MT := setM S t (opT (stT (S.th t) st) [])
def nextM (S : MT) (t : Nat) : MT := setM S t (goT (S.th t) (IntKind.i64.wrap ((S.th t).at_ + 1)) (regs (S.th t)))
def wakesM (S : MT) (c : Nat) : Nat → MT
 | 0 => S
 | k + 1 => wakeM (wakesM S c k) c
def doesM (K : MK) (t : Nat) (S : MT) (x : Instr) : MT :=
 let y := S.th t
 if localB x.op = true then
  let r := nextF (at3 K.c.progs t) (at5 K.m t) y.at_ (regs y)
  setM S t (goT y r.1 r.2.1)
 else if x.op = 8 ∨ x.op = 9 ∨ x.op = 10 ∨ x.op = 11 then bif accNo K S t x then stopM S t 2 else nextM (accM K S t x) t
 else if x.op = 12 then nextM (setM S t (lgT y (y.log ++ [sel4 (regs y) x.a]))) t
 else if x.op = 13 then nextM (setM S t (opT y (y.opn ++ [⟨x.a,x.b == 1⟩]))) t
 else if x.op = 14 then nextM (setM S t (opT y (y.opn.take (y.opn.length - 1)))) t
 else if x.op = 15 then nextM (stopM { S with q := updQ S.q x.a.toNat (S.q x.a.toNat ++ [(t : Int)]) } t 4) t
 else if x.op = 16 then nextM (wakesM S x.a.toNat 1) t
 else if x.op = 17 then nextM (wakesM S x.a.toNat (S.q x.a.toNat).length) t
 else nextM S t
structure DsI (n t : Nat) (s : AcS) : Prop where
 pl : t < s.K.c.progs.length
 ml : t < s.K.m.length
 a4 : s.x.op = 8 ∨ s.x.op = 9 ∨ s.x.op = 12 → 0 ≤ s.x.a ∧ s.x.a < 4
 b4 : s.x.op = 8 ∨ s.x.op = 9 ∨ s.x.op = 10 ∨ s.x.op = 11 → 0 ≤ s.x.b ∧ s.x.b < 4
 c3 : s.x.op = 15 ∨ s.x.op = 16 ∨ s.x.op = 17 → 0 ≤ s.x.a ∧ s.x.a < 3
 lv : s.x.op = 14 → 1 ≤ (s.S.th t).opn.length
 own : s.S.o.length = s.S.w.length
 lk : s.K.c.locks.length ≤ 1000
 opn : (s.S.th t).opn.length ≤ 1000
 log : (s.S.th t).log.length ≤ 1000
 q : ∀ c,c < 3 → ∀ u ∈ s.S.q c,0 ≤ u ∧ u < (n : Int)
 ql : ∀ c,c < 3 → (s.S.q c).length ≤ 3
def dsD (n t N : Nat) : FrD cod := ⟨N,mFoot n,AcS,DsI n t,fun s => [.ptr 0 0,li t,.agg (enc2 s.x)],fun s => mIn s.K n s.S,[⟨MK × MT,fun s r => r.1 = s.K ∧ r.2 = doesM s.K t s.S s.x,fun r => .any,fun r h => mOut r.1 n N r.2 h⟩],fun _ _ => 0⟩
noncomputable def b56 : Code := Tryz.f56.body.getD .skip
noncomputable def w2 (n t : Nat) : List (FuncId × Ctr cod) := [(88,mkCtr locD),(89,mkCtr nxD),(90,accCtr n t),(91,wakeCtr n)]
end Go.Proofs.YtcholkmididfmaaGreatDoor
/- does: what is owed, said by functions. -/
namespace Go.Proofs.YtcholkmididfmaaGreatDoor
open Go.RowKit Go.Am Go.Sy
set_option linter.unusedVariables false
set_option linter.unusedSimpArgs false
def askP (M n b : Nat) (g : Nat → Option Ob) : Nat → Prop → Prop
 | 0,P => P
 | k + 1,P => bif mFootB n b k then askP M n b g k P else (ltOO M (g k) = true ∧ askP M n b g k P)
def gOf (f : Nat → Option Ob) (N : Nat) (x : Instr) (k : Nat) : Option Ob := bif Nat.blt k N then f k else bif Nat.beq k N then some (.cells (enc2 x)) else none
theorem ltV_mono {n m : Nat} (h : n ≤ m) {x : V} (hx : ltV n x = true) : ltV m x = true := by
 have lt : ∀ {id : Nat},Nat.blt id n = true → Nat.blt id m = true := fun h' => by rw [Nat.blt_eq] at *; omega
 cases x <;> simp only [ltV] at * <;> first | exact lt hx | rfl | cases hx
theorem ltOO_mono {n m : Nat} (h : n ≤ m) {o : Option Ob} (ho : ltOO n o = true) : ltOO m o = true := by
 cases o with
 | none => rfl
 | some o =>
  cases o with
  | cells cs => exact List.all_eq_true.2 fun x hx => ltV_mono h (List.all_eq_true.1 ho x hx)
  | mp es => exact List.all_eq_true.2 fun x hx => ltV_mono h (List.all_eq_true.1 ho x hx)
  | rows _ _ _ _ => rfl
  | it _ _ => rfl
theorem askP_ok {M n b : Nat} {g : Nat → Option Ob} {P : Prop} (hP : P) (h : ∀ k,mFootB n b k = false → ltOO M (g k) = true) : ∀ k,askP M n b g k P
 | 0 => hP
 | k + 1 => by
  unfold askP
  cases hf : mFootB n b k with
  | true => exact askP_ok hP h k
  | false => exact ⟨h k hf,askP_ok hP h k⟩
section
variable (n t N : Nat) (s : AcS) (f : Nat → Option Ob)
def dsL (K : MK) (S : MT) : Prop := mLo n N 5 f K S fun r => r.1 = s.K ∧ r.2 = doesM s.K t s.S s.x
def toE (K K' : MK) (S S' : MT) (A P : Prop) : Prop := S.w = S'.w ∧ S.o = S'.o ∧ S.q 0 = S'.q 0 ∧ S.q 1 = S'.q 1 ∧ S.q 2 = S'.q 2 ∧ lsE S.th S'.th n (A ∧ thsE S.th S'.th n (kE K K' P))
theorem toE_ok (K : MK) (S : MT) {A P : Prop} (hA : A) (h : P) : toE n K K S S A P := ⟨rfl,rfl,rfl,rfl,rfl,lsE_ok _ ⟨hA,thsE_ok _ ⟨rfl,rfl,rfl,rfl,rfl,rfl,rfl,rfl,rfl,rfl,rfl,rfl,rfl,h⟩ _⟩ _⟩
def acCall (cont : MK × MT × Bool → Prop) : Prop := askP 48 n 5 (gOf f N s.x) 48 (∃ z : AcS,s.S.w = z.S.w ∧ s.S.o = z.S.o ∧ s.S.q 0 = z.S.q 0 ∧ s.S.q 1 = z.S.q 1 ∧ s.S.q 2 = z.S.q 2 ∧ lsE s.S.th z.S.th n
 (AVal.int .i64 t = AVal.int .i64 t ∧ s.x.op = z.x.op ∧ s.x.a = z.x.a ∧ s.x.b = z.x.b ∧ s.x.c = z.x.c ∧ s.x.n = z.x.n ∧ thsE s.S.th z.S.th n (kE s.K z.K (AcI n t z ∧ (∀ y : MK × MT × Bool,y.1 = z.K ∧ y.2.1 = accM z.K z.S t z.x ∧ y.2.2 = !accNo z.K z.S t z.x → cont y) ∧ True))))
def wkCall (M b : Nat) (K : MK) (S : MT) (cont : MK × MT → Prop) : Prop := askP M n b (gOf f N s.x) M (∃ z : WkS,toE n K z.K S z.S (AVal.int .i64 s.x.a = AVal.int .i64 z.c) (WkI n z ∧ (∀ y : MK × MT,y.1 = z.K ∧ y.2 = wakeM z.S z.c → cont y) ∧ True))
def crP (j k : Nat) : Prop := ∃ r : MK × MT,s.S.w = r.2.w ∧ s.S.o = r.2.o ∧ (bif Nat.beq j 0 || Nat.beq k 0 then False else (s.S.q 0 = r.2.q 0 ∧ False))
def nx : MK × MT → Prop := fun y => dsL n t N s f y.1 (nextM y.2 t)
def acB : Prop := acCall n t N s f fun y => ((!y.2.2) = true → dsL n t N s f y.1 (stopM y.2.1 t 2)) ∧ ((!y.2.2) = false → dsL n t N s f y.1 (nextM y.2.1 t))
def logB : Prop := at4P (regs (s.S.th t)) s.x.a fun v => ((s.S.th t).log.length + [v].length) * 8 ≤ 140737488355328 ∧ dsL n t N s f s.K (nextM (setM s.S t (lgT (s.S.th t) ((s.S.th t).log ++ [v]))) t)
def entB' : Prop := ((s.S.th t).opn.length + [Held.mk s.x.a (s.x.b == 1)].length) * 16 ≤ 140737488355328 ∧ dsL n t N s f s.K (nextM (setM s.S t (opT (s.S.th t) ((s.S.th t).opn ++ [⟨s.x.a,s.x.b == 1⟩]))) t)
def lvB : Prop := ((0 : Int) ≤ 0 ∧ (0 : Int) ≤ IntKind.i64.wrap (((s.S.th t).opn.length : Int) - 1) ∧ IntKind.i64.wrap (((s.S.th t).opn.length : Int) - 1) ≤ ((s.S.th t).opn.length : Int)) ∧
 dsL n t N s f s.K (nextM (setM s.S t (opT (s.S.th t) (List.take ((IntKind.i64.wrap (((s.S.th t).opn.length : Int) - 1)).toNat - 0) (List.drop 0 (s.S.th t).opn)))) t)
def waB : Prop := ixP s.x.a 3 fun j => ((s.S.q j).length + [(t : Int)].length) * 8 ≤ 140737488355328 ∧ ixP s.x.a 3 fun k => bif Nat.beq j k then dsL n t N s f s.K (nextM (stopM { s.S with q := updQ s.S.q j (s.S.q j ++ [(t : Int)]) } t 4) t) else crP s j k
def siB : Prop := wkCall n N s f 48 5 s.K s.S (nx n t N s f)
def toB (i : Int) (L : Nat) (A B : Prop) : Prop := (decide (i ≤ IntKind.i64.wrap ((L : Int) - 1)) = true → A) ∧ (decide (i ≤ IntKind.i64.wrap ((L : Int) - 1)) = false → B)
def caB : Prop := ixP s.x.a 3 fun j => toB 0 (s.S.q j).length
 (wkCall n N s f 48 5 s.K s.S fun y => toB 1 (s.S.q j).length
  (wkCall n N s f 64 48 y.1 y.2 fun y => toB 2 (s.S.q j).length
   (wkCall n N s f 80 64 y.1 y.2 fun y => toB 3 (s.S.q j).length False (nx n t N s f y)) (nx n t N s f y)) (nx n t N s f y)) (nx n t N s f (s.K,s.S))
def ifB (op k : Int) (A B : Prop) : Prop := ((op == k) = true → A) ∧ ((op == k) = false → B)
def bnN (l : Nat) (P : Prop) : Prop := ((0 : Int) ≤ (t : Int) ∧ (t : Int) < (l : Int)) ∧ P
def doP : Prop := locD.pre (s.x.op,()) ∧
 (localB s.x.op = true → bnN t s.K.c.progs.length (bnN t s.K.m.length (nxD.pre (at3 s.K.c.progs t,at5 s.K.m t,(s.S.th t).at_,regs (s.S.th t),()) ∧
  dsL n t N s f s.K (setM s.S t (goT (s.S.th t) (nextF (at3 s.K.c.progs t) (at5 s.K.m t) (s.S.th t).at_ (regs (s.S.th t))).1 (nextF (at3 s.K.c.progs t) (at5 s.K.m t) (s.S.th t).at_ (regs (s.S.th t))).2.1))))) ∧
 (localB s.x.op = false → ifB s.x.op 8 (acB n t N s f) (ifB s.x.op 9 (acB n t N s f) (ifB s.x.op 10 (acB n t N s f) (ifB s.x.op 11 (acB n t N s f)
  (ifB s.x.op 12 (logB n t N s f) (ifB s.x.op 13 (entB' n t N s f) (ifB s.x.op 14 (lvB n t N s f) (ifB s.x.op 15 (waB n t N s f) (ifB s.x.op 17 (caB n t N s f) (ifB s.x.op 16 (siB n t N s f) (nx n t N s f (s.K,s.S))))))))))))
end
abbrev dsQ (n t : Nat) : Prop := ∀ (s : AcS) (f : Nat → Option Ob),Go.Sy.Tree.holds (vcC (goC (w2 n t) Tryz.f56 b56) (dsD n t 40) s (hOf f 40)) = doP n t 40 s f
end Go.Proofs.YtcholkmididfmaaGreatDoor

/- GuardWoken: what holds at its places. Printed by gen_gw.py. -/
import Derived.Test.YtomlcdalhihnaaaSx
namespace Go.Proofs.Ytomlcdalhihnaaa
open Go.RowKit Go.Am Go.Sy
set_option linter.unusedVariables false

/-! ### Two lists of numbers -/
def itD : CtrD cod where
  pats := [.tl 0, .tl 0]
  pre := fun (x : List Int × List Int × Unit) => x.1.length ≤ 1000
  res := fun (x : List Int × List Int × Unit) => .b (x.1 == x.2.1)
  objs := fun x => []
noncomputable def bI : Code := Try.f8.body.getD .skip
noncomputable def bW : Code := Try.f7.body.getD .skip
noncomputable def bL : Code := Try.f4.body.getD .skip
def it4 (a b : List Int) : CutD cod := ⟨Nat, fun i => a.length ≤ 1000 ∧ i ≤ a.length ∧ a.length = b.length ∧ ∀ k : Nat, k < i → at0 a k = at0 b k, fun i => a.length - i, fun i => [(0, .tl (T := T) 0 a), (1, .tl (T := T) 0 b), (5, .i .i64 (i : Nat))], fun i => []⟩
def itF (a b : List Int) : FnD cod := ⟨[(4, it4 a b)], .b (a == b), []⟩

/-! ### Who was woken -/
def wkPre (l : List Att) (o : List Int) : Prop := o.length ≤ 1000 ∧ l.length ≤ 1000 ∧ ∀ x, x ∈ l → x.ca.length ≤ 1 ∧ ∀ w, w ∈ x.ca → w.pl = 0 ∨ w.pl = 1 ∨ w.pl = 2
def wkD : CtrD cod where
  pats := [.tl 4, .tl 0, .int .i64]
  pre := fun (x : List Att × List Int × Int × Unit) => wkPre x.1 x.2.1
  res := fun x => .R 0
  objs := fun (x : List Att × List Int × Int × Unit) => [.rows 0 (wokenF x.1 x.2.1 x.2.2.1) true 0]
structure WS where
  i : Nat
  j : Nat
  n : Int
  k : Int
  s : QS
def qle (s : QS) (N : Nat) : Prop := s.q0.length ≤ N ∧ s.q1.length ≤ N ∧ s.q2.length ≤ N
def regA (l : List Att) (o : List Int) (i : Nat) : List (Nat × SV T) := [(0, .tl (T := T) 4 l), (7, .ptr 0 0), (8, .ptr 1 0), (9, .fn (.func 13) [] [.ptr 1 0, .ptr 0 0]), (22, .tl (T := T) 0 o), (23, .i .i64 (o.length : Nat)), (24, .i .i64 i)]
def objA (s : QS) : List (Go.Sy.Obj T) := [.cells [.R 2], .cells [.mapr 3], .rows 0 s.out true 2, .mp [(0, .R 4), (1, .R 5), (2, .R 6)], .rows 0 s.q0 false 4, .rows 0 s.q1 false 5, .rows 0 s.q2 false 6]
def attO (l : List Att) (o : List Int) (i : Nat) : Att := at4 l (at0 o i)
def regB (l : List Att) (o : List Int) (i j : Nat) : List (Nat × SV T) := regA l o i ++ [(11, .i .i64 (at0 o i)), (48, .tl (T := T) 3 (attO l o i).ca), (49, .i .i64 ((attO l o i).ca.length : Nat)), (50, .i .i64 j)]
/-- A place within a list of attempts that counts. -/
def inO (l : List Att) (o : List Int) (i : Nat) : Prop := i < o.length ∧ 0 ≤ at0 o i ∧ at0 o i < (l.length : Int) ∧ (attO l o i).en = 6
def IA (l : List Att) (o : List Int) (n : Int) (w : WS) : Prop := wkPre l o ∧ w.i ≤ o.length ∧ qle w.s w.i ∧ (attsF l (o.drop w.i) w.s).out = wokenF l o n
def IB (l : List Att) (o : List Int) (n : Int) (w : WS) : Prop := wkPre l o ∧ inO l o w.i ∧ w.j ≤ (attO l o w.i).ca.length ∧ qle w.s (w.i + w.j) ∧ (attsF l (o.drop (w.i + 1)) (callsF (attO l o w.i).th ((attO l o w.i).ca.drop w.j) w.s)).out = wokenF l o n
def IC (l : List Att) (o : List Int) (n : Int) (w : WS) : Prop := wkPre l o ∧ inO l o w.i ∧ w.j < (attO l o w.i).ca.length ∧ qle w.s (w.i + w.j) ∧ 0 ≤ w.k ∧ w.k ≤ w.n + 1 ∧ w.n ≤ 2000 ∧ (attsF l (o.drop (w.i + 1)) (callsF (attO l o w.i).th ((attO l o w.i).ca.drop (w.j + 1)) (wakes (at3 (attO l o w.i).ca w.j).pl (w.n + 1 - w.k).toNat w.s))).out = wokenF l o n
def mA (o : List Int) (w : WS) : Nat := (o.length - w.i) * 100000
def mB (o : List Int) (w : WS) : Nat := (o.length - w.i - 1) * 100000 + (2 - w.j) * 10000
def mC (o : List Int) (w : WS) : Nat := (o.length - w.i - 1) * 100000 + (1 - w.j) * 10000 + 1 + (w.n + 1 - w.k).toNat
def cA (l : List Att) (o : List Int) (n : Int) : CutD cod := ⟨WS, IA l o n, mA o, fun w => regA l o w.i, fun w => objA w.s⟩
def cB (l : List Att) (o : List Int) (n : Int) : CutD cod := ⟨WS, IB l o n, mB o, fun w => regB l o w.i w.j, fun w => objA w.s⟩
def cC (l : List Att) (o : List Int) (n : Int) : CutD cod := ⟨WS, IC l o n, mC o, fun w => regB l o w.i w.j ++ [(13, .ptr 7 0), (14, .i .i64 w.n), (15, .i .i64 w.k)], fun w => objA w.s ++ [.cells (enc3 (at3 (attO l o w.i).ca w.j))]⟩
def wkF (l : List Att) (o : List Int) (n : Int) : FnD cod := ⟨[(5, cA l o n), (9, cB l o n), (19, cC l o n)], .R 0, [.rows 0 (wokenF l o n) true 0]⟩
noncomputable def qW : List (FuncId × Ctr cod) := []

/-! ### The law -/
structure LS where
  i : Nat
  j : Int
  n : Int
  q0 : List Int
  q1 : List Int
  q2 : List Int
  w0 : Int
  w1 : Int
  w2 : Int
  w3 : Int
def LS.s (x : LS) : QS := ⟨x.q0, x.q1, x.q2, [x.w0, x.w1, x.w2, x.w3]⟩
def lsOk (s : QS) (i : Nat) : Prop := qle s i ∧ (∀ t, t ∈ s.q0 → 0 ≤ t ∧ t < 4) ∧ (∀ t, t ∈ s.q1 → 0 ≤ t ∧ t < 4) ∧ (∀ t, t ∈ s.q2 → 0 ≤ t ∧ t < 4)
def objL (l : List Cl) (ab : List Bool) (m : Nat) (x : LS) : List (Go.Sy.Obj T) := [.rows 4 (aL l ab m) false 0, .rows 0 (oL m) false 1, .cells [.R 3, .R 4, .R 5], .rows 0 x.q0 false 3, .rows 0 x.q1 false 4, .rows 0 x.q2 false 5, .cells [.i .i64 x.w0, .i .i64 x.w1, .i .i64 x.w2, .i .i64 x.w3]]
def regL (l : List Cl) (ab : List Bool) (i : Nat) : List (Nat × SV T) := [(0, .tl (T := T) 2 l), (1, .tl (T := T) 1 ab), (5, .R 0), (6, .R 1), (7, .ptr 2 0), (8, .ptr 6 0), (9, .i .i64 i)]
def thL (l : List Cl) (i : Nat) : Int := pk (at2 l i).th 4
def I1 (l : List Cl) (ab : List Bool) (x : LS) : Prop := l.length ≤ 40 ∧ ab.length ≤ 40 ∧ x.i ≤ l.length ∧ lsOk x.s x.i ∧ x.s = stL l ab x.i
def c1 (l : List Cl) (ab : List Bool) : CutD cod := ⟨LS, I1 l ab, fun x => (l.length - x.i) * 10000, fun x => regL l ab x.i, fun x => objL l ab x.i x⟩
def I2 (l : List Cl) (ab : List Bool) (c : Int) (x : LS) : Prop := l.length ≤ 40 ∧ ab.length ≤ 40 ∧ x.i < l.length ∧ lsOk x.s x.i ∧ x.s = stL l ab x.i ∧ pk (at2 l x.i).co 3 = c
def c2 (l : List Cl) (ab : List Bool) (c : Int) : CutD cod := ⟨LS, I2 l ab c, fun x => (l.length - x.i - 1) * 10000 + 9000, fun x => regL l ab x.i ++ [(10, .i .i64 (thL l x.i)), (11, .a (.int .i64 c)), (12, .i .i64 (kd (at2 l x.i).ki)), (13, .ptr 7 0)],
  fun x => objL l ab x.i x ++ [.cells [.i .i64 (thL l x.i), .i .i64 (IntKind.i64.wrap ((x.i : Int) + 1)), .b false, .i .i64 0, .i .i64 0, .i .i64 6, .i .i64 0, .i .i64 0, .tl (T := T) 3 [], .tl (T := T) 3 [], .tl (T := T) 0 [], .tl (T := T) 3 [⟨c, kd (at2 l x.i).ki⟩]]]⟩
/-- What is there when so many of a queue were woken, j of them by now. -/
def rest (c : Int) (n j : Nat) (s : QS) : QS := (s.setq c ((s.q c).drop n)).wout (bumps s.out (((s.q c).take n).drop j))
def I3 (l : List Cl) (ab : List Bool) (c : Int) (x : LS) : Prop := l.length ≤ 40 ∧ ab.length ≤ 40 ∧ x.i < l.length ∧ lsOk x.s (x.i + 1) ∧ 0 ≤ x.j ∧ x.j ≤ x.n ∧ x.n ≤ ((x.s.q c).length : Int) ∧ rest c x.n.toNat x.j.toNat x.s = stL l ab (x.i + 1)
def c3 (l : List Cl) (ab : List Bool) (c : Int) : CutD cod := ⟨LS, I3 l ab c, fun x => (l.length - x.i - 1) * 10000 + 1 + (x.n - x.j).toNat, fun x => regL l ab x.i ++ [(11, .a (.int .i64 c)), (14, .i .i64 x.n), (15, .i .i64 x.j)], fun x => objL l ab (x.i + 1) x⟩
def lwF (l : List Cl) (ab : List Bool) : FnD cod := ⟨[(8, c1 l ab), (13, c2 l ab 0), (13, c2 l ab 1), (13, c2 l ab 2), (25, c3 l ab 0), (25, c3 l ab 1), (25, c3 l ab 2)], .b true, []⟩
noncomputable def qL : List (FuncId × Ctr cod) := [(5, toldCtr (.bool true)), (7, mkCtr wkD), (8, mkCtr itD)]
end Go.Proofs.Ytomlcdalhihnaaa

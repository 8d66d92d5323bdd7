/- Three runs together: where all lies at each cut. -/
import Derived.Test.YtmjjljngaefpaaaNk
namespace Go.Proofs.Ytmjjljngaefpaaa
open Go.RowKit Go.Am Go.Sy
open Go.IntKind (i64 u64)
set_option linter.unusedVariables false
structure LS where
 i : Nat
 n : Nat
 A : RM
 B : RM
 C : RM
 M : XM
 sums : List Int
 t : Int
def txAt (b : Nat) (s : XM) : Ob := .cells [li 3,li 1,li 3,li 0,li 4,iv s.th,iv s.c,li 1000,.ptr (b + 1) 0,.ptr (b + 2) 0,ln,li s.life,li s.job,li s.part,iv (s.i : Int),iv s.at_,iv s.row,iv s.seen,iv s.val,.any,iv s.value,iv s.cause,iv s.stamp,iv s.made,li s.bk,li s.bst,iv s.bse,iv s.bsp,.R (b + 5),.R (b + 6),lb s.ph]
def ruO (tx rd : Nat) (R : RM) : Ob := .cells [.ptr tx 0,.tl (T := T) 2 (planL R),iv (R.i : Int),lb R.busy,iv R.end_,.R rd]
def tO (b : Nat) (R : RM) : List Ob := [txAt b R.X,.cells [li 32,.R (b + 3)],.cells [li 32,.R (b + 4),.i .u64 (filtT R.X.ws),iv R.X.asked],.rows 3 R.X.rs false (b + 3),.rows 3 R.X.ws false (b + 4),.rows 0 R.X.rows false (b + 5),.rows 3 R.X.tk false (b + 6),ruO b (b + 8) R,.rows 3 R.rd false (b + 8)]
def pO (R : RM) : List Ob := [xTx ⟨3,5,6⟩ R.X,xRs ⟨3,5,6⟩,xWs R.X,.rows 3 R.X.rs false 3,.rows 3 R.X.ws false 4,.rows 0 R.X.rows false 5,.rows 3 R.X.tk false 6,xMem R.X,.rows 0 R.X.W false 8,ruO 0 10 R,.rows 3 R.rd false 10]
def uC (b : Bool) (id : Nat) : V := bif b then .ptr id 0 else .a .nilp
def n9 (b : Bool) : Nat := bif b then 9 else 0
def tB (b : Bool) (p : Nat) (R : RM) : List Ob := bif b then tO p R else []
def mpO : Ob := .cells [li 3,li 1,li 3,li 0,li 4]
def meO (k : Nat) (s : XM) : Ob := .cells [.R (k + 1),iv s.steps,iv s.lk,iv s.la,iv s.lv,iv s.ls,.b s.ld]
def objA (a b c : Bool) (x : LS) : List Ob := tB a 0 x.A ++ tB b (n9 a) x.B ++ tB c (n9 a + n9 b) x.C ++ [meO (n9 a + n9 b + n9 c) x.M,.rows 0 x.M.W false (n9 a + n9 b + n9 c + 1),mpO,.cells [uC a 7,uC b (n9 a + 7),uC c (n9 a + n9 b + 7)],.rows 0 x.sums false (n9 a + n9 b + n9 c + 4)]
def regA (cl : Int) (l mv : List Int) (k : Nat) (x : LS) : List (Nat × V) := [(0,iv cl),(1,.tl (T := T) 0 l),(2,.tl (T := T) 0 mv),(8,.ptr (k + 2) 0),(9,.ptr k 0),(12,.ptr (k + 3) 0),(13,.R (k + 4)),(14,iv (x.n : Int)),(15,iv (x.i : Int))]
def nA (a b c : Bool) : Nat := n9 a + n9 b + n9 c
def objT (t : Nat) (a b c : Bool) (x : LS) : List Ob := match t with
 | 0 => pO x.A ++ tB b 11 x.B ++ tB c (11 + n9 b) x.C ++ [mpO,.cells [.ptr 9 0,uC b 18,uC c (11 + n9 b + 7)],.rows 0 x.sums false (11 + n9 b + n9 c + 2)]
 | 1 => pO x.B ++ tB a 11 x.A ++ tB c (11 + n9 a) x.C ++ [mpO,.cells [uC a 18,.ptr 9 0,uC c (11 + n9 a + 7)],.rows 0 x.sums false (11 + n9 a + n9 c + 2)]
 | _ => pO x.C ++ tB a 11 x.A ++ tB b (11 + n9 a) x.B ++ [mpO,.cells [uC a 18,uC b (11 + n9 a + 7),.ptr 9 0],.rows 0 x.sums false (11 + n9 a + n9 b + 2)]
def nT (t : Nat) (a b c : Bool) : Nat := match t with
 | 0 => 11 + n9 b + n9 c
 | 1 => 11 + n9 a + n9 c
 | _ => 11 + n9 a + n9 b
def regT (cl : Int) (l mv : List Int) (k t : Nat) (x : LS) : List (Nat × V) := [(0,iv cl),(1,.tl (T := T) 0 l),(2,.tl (T := T) 0 mv),(8,.ptr k 0),(9,.ptr 7 0),(12,.ptr (k + 1) 0),(13,.R (k + 2)),(14,iv (x.n : Int)),(15,iv (x.i : Int)),(16,li (t : Int))]
def M10 : XM := { newX 0 0 with steps := 4,lk := 2,la := 32,lv := 10,ls := 0,ld := true }
def S00 : TS × Nat := (⟨fun _ => none,M10,[]⟩,0)
def pkT (l : List Int) (i : Nat) : Int := if i < l.length then uT (at0 l (i : Int)) % 3 else ((i % 3 : Nat) : Int)
def itT (cl : Int) (l mv : List Int) (i : Nat) : TS × Nat := iterT cl mv (pkT l) l.length S00 i
def opt (b : Bool) (R : RM) : Option RM := bif b then some R else none
structure StA (cl : Int) (l mv : List Int) (a b c : Bool) (x : LS) : Prop where
 ok : (cl = 1 ∨ cl = 2) ∧ l.length ≤ 200 ∧ mv.length ≤ 50
 i : x.i ≤ l.length + 300
 u0 : (itT cl l mv x.i).1.u 0 = opt a x.A
 u1 : (itT cl l mv x.i).1.u 1 = opt b x.B
 u2 : (itT cl l mv x.i).1.u 2 = opt c x.C
 M : (itT cl l mv x.i).1.M = x.M
 sums : (itT cl l mv x.i).1.sums = x.sums
 n : (itT cl l mv x.i).2 = x.n
structure StB (cl : Int) (l mv : List Int) (a b c : Bool) (x : LS) : Prop where
 st : StA cl l mv a b c x
 i : x.i < l.length + 300
 t : x.t = pkT l x.i
def curT (cl : Int) (l mv : List Int) (i : Nat) : RM := memR (itT cl l mv i).1 (curR (itT cl l mv i).1 (pkT l i) (freshF cl mv (itT cl l mv i).2 (pkT l i)) (decide (i < l.length)))
structure StT (cl : Int) (l mv : List Int) (t : Nat) (a b c : Bool) (x : LS) : Prop where
 ok : (cl = 1 ∨ cl = 2) ∧ l.length ≤ 200 ∧ mv.length ≤ 50
 i : x.i < l.length + 300
 tt : (t : Int) = pkT l x.i
 u0 : (match t with | 0 => some (curT cl l mv x.i) | _ => (itT cl l mv x.i).1.u 0) = opt a x.A
 u1 : (match t with | 1 => some (curT cl l mv x.i) | _ => (itT cl l mv x.i).1.u 1) = opt b x.B
 u2 : (match t with | 0 => (itT cl l mv x.i).1.u 2 | 1 => (itT cl l mv x.i).1.u 2 | _ => some (curT cl l mv x.i)) = opt c x.C
 sums : (itT cl l mv x.i).1.sums = x.sums
 n : (itT cl l mv (x.i + 1)).2 = x.n
def cutA (cl : Int) (l mv : List Int) (a b c : Bool) : CutD cod := ⟨LS,StA cl l mv a b c,fun x => (600 - x.i) * 3,regA cl l mv (nA a b c),objA a b c⟩
def cutB (cl : Int) (l mv : List Int) (a b c : Bool) : CutD cod := ⟨LS,StB cl l mv a b c,fun x => (600 - x.i) * 3 - 1,fun x => regA cl l mv (nA a b c) x ++ [(16,li x.t)],objA a b c⟩
def cutT (cl : Int) (l mv : List Int) (t : Nat) (a b c : Bool) : CutD cod := ⟨LS,StT cl l mv t a b c,fun x => (600 - x.i) * 3 - 2,regT cl l mv (nT t a b c) t,objT t a b c⟩
def cutsG (cl : Int) (l mv : List Int) : List (Nat × CutD cod) :=
 let A := cutA cl l mv
 let B := cutB cl l mv
 let T := cutT cl l mv
 [(13,A false false false),(13,A false false true),(13,A false true false),(13,A false true true),(13,A true false false),(13,A true false true),(13,A true true false),(13,A true true true),
  (18,B false false false),(18,B false false true),(18,B false true false),(18,B false true true),(18,B true false false),(18,B true false true),(18,B true true false),(18,B true true true),
  (30,T 0 true false false),(30,T 0 true false true),(30,T 0 true true false),(30,T 0 true true true),(30,T 1 false true false),(30,T 1 false true true),(30,T 1 true true false),(30,T 1 true true true),(30,T 2 false false true),(30,T 2 false true true),(30,T 2 true false true),(30,T 2 true true true)]
def bitOf (w : Nat) : V → Option Nat
 | .ptr _ _ => some w
 | .a .nilp => some 0
 | _ => none
noncomputable def bits3 (r : SR cod) (h : SH cod) : Option (Nat × Nat × Nat) := match r.get 12 with
 | .ptr id _ => match hget h id with
  | some (.cells [x,y,z]) => match bitOf 1 x,bitOf 1 y,bitOf 1 z with
   | some a,some b,some c => some (a,b,c)
   | _,_,_ => none
  | _ => none
 | _ => none
def litG (v : V) : Option Nat := match v with
 | .a (.int .i64 0) => some 0
 | .a (.int .i64 1) => some 1
 | .a (.int .i64 2) => some 2
 | _ => none
noncomputable def selG (rid : Nat) (r : SR cod) (h : SH cod) : Option Nat := match bits3 r h with
 | some (a,b,c) => bif Nat.beq rid 13 then some (4 * a + 2 * b + c) else bif Nat.beq rid 18 then some (8 + 4 * a + 2 * b + c) else match litG (r.get 16) with
  | some 0 => some (16 + 2 * b + c)
  | some 1 => some (20 + 2 * a + c)
  | some 2 => some (24 + 2 * a + b)
  | _ => none
 | _ => none
def sumsG (cl : Int) (l mv : List Int) : List Int := (itT cl l mv (l.length + 300)).1.sums
def togD : CtrD cod where
 pats := [.int .i64,.tl 0,.tl 0]
 pre := fun (x : Int × List Int × List Int × Unit) => (x.1 = 1 ∨ x.1 = 2) ∧ x.2.1.length ≤ 200 ∧ x.2.2.1.length ≤ 50
 res := fun x => .tup [.R 0,.a (.bool true)]
 objs := fun (x : Int × List Int × List Int × Unit) => [.rows 0 (sumsG x.1 x.2.1 x.2.2.1) false 0]
def peekD : CtrD cod where
 pats := [.frow 8,.int .i64]
 pre := fun (x : Mw × Int × Unit) => 0 ≤ x.2.1 ∧ x.2.1 < (x.1.ws.length : Int)
 res := fun (x : Mw × Int × Unit) => .i .i64 (at0 x.1.ws x.2.1)
 objs := fun x => []
noncomputable def b16p : Code := Try.f16.body.getD .skip
noncomputable def aCtr (c : Ctr cod) : Ctr cod := fun wlo args h K => c wlo args h fun v h' => match v with
 | .i k n => K (.a (.int k n)) h'
 | _ => K v h'
noncomputable def lG : List (FuncId × Ctr cod) := [(12,padCtr 33 (frCtr nextD)),(17,aCtr (mkCtr dataD)),(21,aCtr (mkCtr threadD)),(16,lenCtr 32 99 (mkCtr peekD)),(43,litCtr (vI 34) (mkCtr sizeD)),(51,mkCtr mayD),(50,mkCtr badD)]
noncomputable def b8 : Code := Try.f8.body.getD .skip
def fnG (cl : Int) (l mv : List Int) : FnD cod := ⟨cutsG cl l mv,.tup [.R 0,.a (.bool true)],[.rows 0 (sumsG cl l mv) false 0]⟩
noncomputable abbrev cG (cl : Int) (l mv : List Int) (rid : Nat) (c : CutD cod) (s : c.St) : Tree := cutS F (lookC lG) 3000 Try.f8 b8 (fnG cl l mv) selG rid c s
noncomputable abbrev eG (cl : Int) (l mv : List Int) : Tree := entryS F (lookC lG) 3000 Try.f8 b8 (fnG cl l mv) selG [.i .i64 cl,.tl (T := T) 0 l,.tl (T := T) 0 mv]
end Go.Proofs.Ytmjjljngaefpaaa

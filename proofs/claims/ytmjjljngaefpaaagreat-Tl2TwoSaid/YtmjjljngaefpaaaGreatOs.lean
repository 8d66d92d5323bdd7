/- Tl2Two: what is asked of an attempt of the program's and of the reference's: begun, read, written, committed. -/
import Derived.Test.YtmjjljngaefpaaaGreatYl
namespace Go.Proofs.YtmjjljngaefpaaaGreat
open Go.RowKit Go.Am Go.Sy
open Go.IntKind (i64 u64)
set_option linter.unusedVariables false
def yz (s : XM) (z : Int) (k : Nat) : YM := { yv s with st := z,i := k }
def beginX (s : XM) : XM := { s with life := 1,job := 1,part := 0,i := 0,value := 0,cause := 0,made := 0,ph := false,rs := [],ws := [],asked := 0,rows := [],tk := [],code := 0 }
def commitX (s : XM) : XM := { s with job := 4,part := 4,i := 0,code := 0 }
def readX (p : Int) (s : XM) : XM := bif hasB s.ws p then { s with value := (at3 s.ws (findT s.ws p)).vl,asked := i64.wrap (s.asked + 1),code := 1 } else { s with at_ := p,row := hashT p,job := 2,part := 0,i := 0,code := 0 }
def putT (l : List Wo) (p v : Int) : List Wo := bif hasB l p then l.set (findT l p).toNat ⟨(at3 l (findT l p)).pl,v⟩ else l ++ [⟨p,v⟩]
def writeX (p v : Int) (s : XM) : XM := { s with ws := putT s.ws p v,code := 1 }
def xTxN (s : XM) : Ob := .cells [li 3,li 1,li 3,li 0,li 4,iv s.th,iv s.c,li 1000,.ptr 1 0,.ptr 2 0,ln,li s.life,li s.job,li s.part,iv (s.i : Int),iv s.at_,iv s.row,iv s.seen,iv s.val,.any,iv s.value,iv s.cause,iv s.stamp,iv s.made,li s.bk,li s.bst,iv s.bse,iv s.bsp,ln,ln,lb s.ph]
def xBeg (s : XM) (h : SH cod) : SH cod := [some (xTxN s),some (.cells [li 32,ln]),some (.cells [li 32,ln,.a (.int .u64 0),li 0]),none,none,none,none,some (xMem s),some (.rows 0 s.W false 8)] ++ h.drop 9
def xWrt (s : XM) (h : SH cod) : SH cod := [some (xTx ⟨3,5,6⟩ s),some (xRs ⟨3,5,6⟩),some (.cells [li 32,.R 35,.i .u64 (filtT s.ws),iv s.asked]),some (.rows 3 s.rs false 3),none,some (.rows 0 s.rows false 5),some (.rows 3 s.tk false 6),some (xMem s),some (.rows 0 s.W false 8)] ++ h.drop 9 ++ [some (.rows 3 s.ws false 4)]
def xBegD (I : XM → Prop) : FrD cod := ⟨34,xFoot,XM,I,fun _ => [.ptr 0 0],xIn,[⟨XM,fun s s' => s' = beginX s,fun s => iv s.code,xBeg⟩],fun _ _ => 0⟩
def xComD (I : XM → Prop) : FrD cod := ⟨34,xFoot,XM,I,fun _ => [.ptr 0 0],xIn,[⟨XM,fun s s' => s' = commitX s,fun s => iv s.code,xIn⟩],fun _ _ => 0⟩
def xReadD (I : XM × Int → Prop) : FrD cod := ⟨35,xFoot,XM × Int,I,fun q => [.ptr 0 0,iv q.2],fun q => xIn q.1,[⟨XM,fun q s' => s' = readX q.2 q.1,fun s => iv s.code,xIn⟩],fun _ _ => 0⟩
def xWrtD (I : XM × Int × Int → Prop) : FrD cod := ⟨35,xFoot,XM × Int × Int,I,fun q => [.ptr 0 0,iv q.2.1,iv q.2.2],fun q => xIn q.1,[⟨XM,fun q s' => s' = writeX q.2.1 q.2.2 q.1,fun s => iv s.code,xWrt⟩],fun _ _ => 0⟩
noncomputable def b9 : Code := Tryz.f9.body.getD .skip
noncomputable def b11 : Code := Tryz.f11.body.getD .skip
noncomputable def b14 : Code := Tryz.f14.body.getD .skip
noncomputable def b16 : Code := Tryz.f16.body.getD .skip
noncomputable def cX (fn : Func) (b : Code) : Ctr cod := loopCtr F (lookC lX) 2000 fn b (fun _ _ => []) (fun _ _ => 0)
noncomputable def vcC (c : Ctr cod) (D : FrD cod) (s : D.St) (h : SH cod) : Tree := c 0 (D.args s) (D.heap s h) (frFin D s h)
def yTxN (s : YM) : Ob := .cells [li 3,li 1,li 3,li 0,li 4,lb false,iv s.th,iv s.c,li 1000,li 32,ln,li 32,li 0,ln,ln,lb s.al,lb s.su,lb s.ph,lb false,li s.job,li s.st,iv (s.i : Int),li 0,li 0,iv s.at_,iv s.val,iv s.seen,li 0,iv s.value,iv s.stamp,iv s.made,iv s.cause,ln,ln,li s.ybk,li s.ybst,iv s.ybse,iv s.ybsp]
def yTxW (s : YM) (n : Nat) : Ob := .cells [li 3,li 1,li 3,li 0,li 4,lb false,iv s.th,iv s.c,li 1000,li 32,.R 10,li 32,iv s.asked,.R n,ln,lb s.al,lb s.su,lb s.ph,lb false,li s.job,li s.st,iv (s.i : Int),li 0,li 0,iv s.at_,iv s.val,iv s.seen,li 0,iv s.value,iv s.stamp,iv s.made,iv s.cause,.R 12,.R 13,li s.ybk,li s.ybst,iv s.ybse,iv s.ybsp]
def yBeg (s : YM) (h : SH cod) : SH cod := h.take 9 ++ [some (yTxN s),none,none,none,none,some (yMem s),some (.rows 0 s.W false 15)] ++ h.drop 16
def yWrt (s : YM) (h : SH cod) : SH cod := h.take 9 ++ [some (yTxW s 36),some (.rows 3 s.rs false 10),none,some (.rows 0 s.rows false 12),some (.rows 0 s.old false 13),some (yMem s),some (.rows 0 s.W false 15)] ++ h.drop 16 ++ [some (.rows 3 s.ws false 11)]
def isY (s : XM) (z : Int) (k : Nat) (y : YM) : Prop := y = yz s z k
def yBegD (I : XM → Prop) : FrD cod := ⟨34,yFoot,XM × Int × Nat × YM,fun q => I q.1 ∧ isY q.1 q.2.1 q.2.2.1 q.2.2.2,fun _ => [.ptr 9 0],fun q => yIn q.2.2.2,[⟨YM,fun q y => y = yv (beginX q.1),fun y => iv y.code,yBeg⟩],fun _ _ => 0⟩
def yComD (I : XM → Prop) : FrD cod := ⟨34,yFoot,XM × Int × Nat × YM,fun q => I q.1 ∧ isY q.1 q.2.1 q.2.2.1 q.2.2.2,fun _ => [.ptr 9 0],fun q => yIn q.2.2.2,[⟨YM,fun q y => y = yv (commitX q.1),fun y => iv y.code,yIn⟩],fun _ _ => 0⟩
def yReadD (I : XM × Int → Prop) : FrD cod := ⟨35,yFoot,XM × Int × Int × Nat × YM,fun q => I (q.1,q.2.1) ∧ isY q.1 q.2.2.1 q.2.2.2.1 q.2.2.2.2,fun q => [.ptr 9 0,iv q.2.1],fun q => yIn q.2.2.2.2,[⟨YM,fun q y => y = yz (readX q.2.1 q.1) 0 0,fun y => iv y.code,yIn⟩],fun _ _ => 0⟩
def yWrtD (I : XM × Int × Int → Prop) : FrD cod := ⟨36,yFoot,XM × Int × Int × Int × Nat × YM,fun q => I (q.1,q.2.1,q.2.2.1) ∧ isY q.1 q.2.2.2.1 q.2.2.2.2.1 q.2.2.2.2.2,fun q => [.ptr 9 0,iv q.2.1,iv q.2.2.1],fun q => yIn q.2.2.2.2.2,[⟨YM,fun q y => y = yz (writeX q.2.1 q.2.2.1 q.1) q.2.2.2.1 q.2.2.2.2.1,fun y => iv y.code,yWrt⟩],fun _ _ => 0⟩
noncomputable def b10 : Code := Tryz.f10.body.getD .skip
noncomputable def b12 : Code := Tryz.f12.body.getD .skip
noncomputable def b15 : Code := Tryz.f15.body.getD .skip
noncomputable def b17 : Code := Tryz.f17.body.getD .skip
noncomputable def cY (fn : Func) (b : Code) : Ctr cod := loopCtr F (lookC lR) 2000 fn b (fun _ _ => []) (fun _ _ => 0)
end Go.Proofs.YtmjjljngaefpaaaGreat

/- A pick of a run: how it lies in objects, what is behind it. -/
import Derived.Test.YtmjjljngaefpaaaJo
import Derived.Test.YtmjjljngaefpaaaLib4
import Derived.Test.YtmjjljngaefpaaaRn
namespace Go.Proofs.Ytmjjljngaefpaaa
open Go.RowKit Go.Am Go.Sy
open Go.IntKind (i64 u64)
set_option linter.unusedVariables false
def planL (R : RM) : List Op := bif R.mv then [⟨0,R.f,0⟩,⟨0,R.g,0⟩,⟨1,R.f,-R.m⟩,⟨1,R.g,R.m⟩] else [⟨0,0,0⟩,⟨0,1,0⟩,⟨0,2,0⟩,⟨0,3,0⟩]
def runO (p : List Op) (R : RM) (rd : V) : Ob := .cells [.ptr 0 0,.tl (T := T) 2 p,iv (R.i : Int),lb R.busy,li R.end_,rd]
def nInP (p : List Op) (R : RM) (h : SH cod) : SH cod := [some (xTx ⟨3,5,6⟩ R.X),some (xRs ⟨3,5,6⟩),some (xWs R.X),some (.rows 3 R.X.rs false 3),some (.rows 3 R.X.ws false 4),some (.rows 0 R.X.rows false 5),some (.rows 3 R.X.tk false 6),some (xMem R.X),some (.rows 0 R.X.W false 8),some (runO p R (.R 10)),some (.rows 3 R.rd false 10)] ++ h.drop 11
def nFoot (j : Nat) : Bool := Nat.blt j 11
def nAsk (j : Nat) : Bool := Nat.ble 11 j && Nat.blt j 33
noncomputable def b12n : Code := Try.f12.body.getD .skip
def vI (n : Int) : AVal := .int .i64 n
def lenD : CtrD cod where
 pats := [.frow 8]
 pre := fun (x : Mw × Unit) => x.1.ws.length = 34
 res := fun x => .a (.int .i64 34)
 objs := fun x => []
noncomputable def b42n : Code := Try.f42.body.getD .skip
theorem len_e (s : Mw) : Tree.holds (entryX F (lookC []) 400 Try.f42 b42n ⟨[],.a (.int .i64 34),[]⟩ [.fp (enc8 s)]) = (AVal.int .i64 (s.ws.length : Int) = AVal.int .i64 34 ∧ True) := by kernel_rfl
theorem lenOk : CtrOk1 F.S 42 (mkCtr lenD) :=
 mkCtr_paid (fn := Try.f42) (body := b42n) (ctr := lookC []) codOk noExt hookLow noneOk Try.func42 rfl rfl (by kernel_rfl) lenD 400 (fun _ => []) (show 1 ≤ Try.f42.ntmps by decide) (show Try.f42.ntmps ≤ 512 by decide) (by kernel_rfl) (fun _ _ => ⟨rfl,rfl⟩)
  (fun (x : Mw × Unit) h => ⟨by rw [show argsS lenD.pats x = [.fp (enc8 x.1)] from rfl]; rw [show (⟨[],lenD.res x,lenD.objs x⟩ : FnD cod) = ⟨[],.a (.int .i64 34),[]⟩ from rfl]; rw [len_e]; have h : x.1.ws.length = 34 := h; rw [h]; exact ⟨rfl,trivial⟩⟩) (fun x h q hm => by cases hm)
noncomputable def stC : FuncId × Ctr cod := (15,padCtr 60 (frCtrB nAsk (xStepD stepX goX' 62)))
def noL (l : List FuncId) : List (FuncId × Ctr cod) := l.map fun f => (f,noCtr)
noncomputable def nextL (l : List (FuncId × Ctr cod)) : Ctr cod := loopCtr F (lookC l) 2000 Try.f12 b12n (fun _ _ => []) (fun _ _ => 0)
noncomputable def lLit : List (FuncId × Ctr cod) := [(86,litCtr (vI (-1)) (mkCtr findD)),(57,litCtr (.bool true) (mkCtr roomD)),(43,litCtr (vI 34) (mkCtr sizeD)),(42,mkCtr lenD)]
noncomputable def lNb : List (FuncId × Ctr cod) := stC :: lX
noncomputable def lNi : List (FuncId × Ctr cod) := stC :: (noL [30,33,41,68] ++ [(17,mkCtr dataD)] ++ lLit ++ lX)
noncomputable def lNn : List (FuncId × Ctr cod) := noL [17,33,32] ++ lLit ++ lX
noncomputable def inL (l : List (FuncId × Ctr cod)) (fn : Func) : Ctr cod := loopCtr F (lookC l) 2000 fn (fn.body.getD .skip) (fun _ _ => []) (fun _ _ => 0)
noncomputable def lNc : List (FuncId × Ctr cod) := noL [17,30] ++ lLit ++ lX
def mpV : V := .agg [li 3,li 1,li 3,li 0,li 4]
def nArgs : List V := [.ptr 9 0,.ptr 7 0,mpV]
end Go.Proofs.Ytmjjljngaefpaaa

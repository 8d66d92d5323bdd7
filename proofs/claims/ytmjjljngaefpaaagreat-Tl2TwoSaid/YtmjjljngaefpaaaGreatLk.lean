/- Tl2Two: both attempts tell the same, both memories are the same: what is answered. -/
import Derived.Test.YtmjjljngaefpaaaGreatIv
namespace Go.Proofs.YtmjjljngaefpaaaGreat
open Go.RowKit Go.Am Go.Sy
open Go.IntKind (i64 u64)
set_option linter.unusedVariables false
def lkFoot (j : Nat) : Bool := Nat.blt j 16
def lkIn (s : XM) (y : YM) (h : SH cod) : SH cod := [some (xTx ⟨3,5,6⟩ s),some (xRs ⟨3,5,6⟩),some (xWs s),some (.rows 3 s.rs false 3),some (.rows 3 s.ws false 4),some (.rows 0 s.rows false 5),some (.rows 3 s.tk false 6),some (xMem s),some (.rows 0 s.W false 8),some (yTx ⟨10,12,13⟩ y),some (.rows 3 y.rs false 10),some (.rows 3 y.ws false 11),some (.rows 0 y.rows false 12),some (.rows 0 y.old false 13),some (yMem y),some (.rows 0 y.W false 15)] ++ h.drop 16
def lkD (I : XM → Prop) : FrD cod where
 n := 34
 foot := lkFoot
 St := XM × Int × Nat × YM
 I := fun q => I q.1 ∧ isY q.1 q.2.1 q.2.2.1 q.2.2.2
 args := fun q => [.ptr 0 0,.ptr 9 0]
 heap := fun q => lkIn q.1 q.2.2.2
 outs := [⟨XM × YM,fun q p => p = (q.1,q.2.2.2),fun _ => lb true,fun p => lkIn p.1 p.2⟩]
 sel := fun _ _ => 0
def keysD : CtrD cod where
 pats := [.frow 5]
 pre := fun (x : Rs × Unit) => x.1.ls.length ≤ 1000
 res := fun x => .R 0
 objs := fun (x : Rs × Unit) => [.rows 0 (x.1.ls.map (·.pl)) true 0]
def keysC (l : List Wo) : CutD cod := ⟨Nat,fun i => i ≤ l.length,fun i => l.length - i,
 fun i => [(3,.R 0),(11,.tl (T := T) 3 l),(12,.i .i64 (l.length : Int)),(13,.i .i64 (i : Int))],fun i => [.rows 0 ((l.take i).map (·.pl)) true 0]⟩
def keysF (l : List Wo) : FnD cod := ⟨[(4,keysC l)],.R 0,[.rows 0 (l.map (·.pl)) true 0]⟩
noncomputable def b127 : Code := Tryz.f127.body.getD .skip
def sameD : CtrD cod where
 pats := [.frow 8,.frow 8]
 pre := fun (x : Mw × Mw × Unit) => x.1.ws = x.2.1.ws ∧ x.1.ws.length = 34
 res := fun x => .a (.bool true)
 objs := fun x => []
def sameC (l : List Int) : CutD cod := ⟨Nat,fun i => i ≤ l.length,fun i => l.length - i,
 fun i => [(1,.fp (enc8 ⟨l⟩)),(5,.R 0),(6,.i .i64 (i : Int))],fun i => [.rows 0 l true 0]⟩
def sameF (l : List Int) : FnD cod := ⟨[(5,sameC l)],.a (.bool true),[]⟩
noncomputable def b22 : Code := Tryz.f22.body.getD .skip
noncomputable def b21 : Code := Tryz.f21.body.getD .skip
def deciD : CtrD cod where
 pats := [.fskip 11 0]
 pre := fun x => True
 res := fun (x : Int × Unit) => .b (x.1 == 2)
 objs := fun x => []
noncomputable def b70 : Code := Tryz.f70.body.getD .skip
noncomputable def lK : List (FuncId × Ctr cod) := [(127,mkCtr keysD),(70,mkCtr deciD)]
noncomputable def cK : Ctr cod := loopCtr F (lookC lK) 146 Tryz.f21 b21 (fun _ _ => []) (fun _ _ => 0)
end Go.Proofs.YtmjjljngaefpaaaGreat

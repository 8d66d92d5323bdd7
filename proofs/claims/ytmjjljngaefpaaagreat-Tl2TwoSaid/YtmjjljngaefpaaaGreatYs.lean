/- Tl2Two: an attempt of the reference's, told by the program's: how it lies in objects; its step. -/
import Derived.Test.YtmjjljngaefpaaaGreatXl
import Derived.Test.YtmjjljngaefpaaaGreatRm
namespace Go.Proofs.YtmjjljngaefpaaaGreat
open Go.RowKit Go.Am Go.Sy
open Go.IntKind (i64 u64)
set_option linter.unusedVariables false
structure YM where
 code : Int
 th : Int
 c : Int
 al : Bool
 su : Bool
 ph : Bool
 job : Int
 st : Int
 i : Nat
 at_ : Int
 seen : Int
 val : Int
 value : Int
 cause : Int
 stamp : Int
 made : Int
 ybk : Int
 ybst : Int
 ybse : Int
 ybsp : Int
 rs : List Wo
 ws : List Wo
 asked : Int
 rows : List Int
 old : List Int
 W : List Int
 steps : Int
 lk : Int
 la : Int
 lv : Int
 ls : Int
 ld : Bool
def stY (p : Int) : Int := if p < 4 then p else if p < 9 then p - 4 else p - 3
def yv (s : XM) : YM := ⟨s.code,s.th,s.c,s.life == 1 || (s.life == 2 && s.job != 0),s.life == 2,s.ph || (s.life == 2 && s.job == 0),s.job,stY s.part,s.i,s.at_,s.seen,s.val,s.value,s.cause,s.stamp,s.made,s.ybk,s.ybst,s.ybse,s.ybsp,s.rs,s.ws,s.asked,s.rows,s.tk.map (·.vl),s.W,s.steps,s.lk,s.la,s.lv,s.ls,s.ld⟩
def yTx (L : LN) (s : YM) : Ob := .cells [li 3,li 1,li 3,li 0,li 4,lb false,iv s.th,iv s.c,li 1000,li 32,.R L.rs,li 32,iv s.asked,.R 11,ln,lb s.al,lb s.su,lb s.ph,lb false,li s.job,li s.st,iv (s.i : Int),li 0,li 0,iv s.at_,iv s.val,iv s.seen,li 0,iv s.value,iv s.stamp,iv s.made,iv s.cause,.R L.rows,.R L.tk,li s.ybk,li s.ybst,iv s.ybse,iv s.ybsp]
def yMem (s : YM) : Ob := .cells [.R 15,iv s.steps,iv s.lk,iv s.la,iv s.lv,iv s.ls,.b s.ld]
def yIn (s : YM) (h : SH cod) : SH cod := h.take 9 ++ [some (yTx ⟨10,12,13⟩ s),some (.rows 3 s.rs false 10),some (.rows 3 s.ws false 11),some (.rows 0 s.rows false 12),some (.rows 0 s.old false 13),some (yMem s),some (.rows 0 s.W false 15)] ++ h.drop 16
def yOut (n root : Nat) (s : YM) (h : SH cod) : SH cod := h.take 9 ++ [some (yTx ⟨n,n + 1,n + 2⟩ s),none,some (.rows 3 s.ws false 11),none,none,some (yMem s),some (.rows 0 s.W false 15)] ++ h.drop 16 ++ [some (.rows 3 s.rs false 10),some (.rows 0 s.rows false root),some (.rows 0 s.old false 13)]
def yFoot (j : Nat) : Bool := Nat.ble 9 j && Nat.blt j 16
def rowsAtY : V → Nat
 | .R 12 => 0
 | _ => 1
def selY (_ : V) (h : SH cod) : Nat := match hget h 9 with
 | some (.cells tx) => rowsAtY (tx.getD 32 .any)
 | _ => 2
def yStepD (st : XM → XM) (I : XM → Prop) (root : Nat) : FrD cod where
 n := 37
 foot := yFoot
 St := XM × YM
 I := fun p => I p.1 ∧ p.2 = yv p.1
 args := fun p => [.ptr 9 0,.ptr 14 0]
 heap := fun p => yIn p.2
 outs := [⟨YM,fun p y => y = yv (st p.1) ∧ ¬ fresh0 p.1,fun y => iv y.code,yOut 37 12⟩,⟨YM,fun p y => y = yv (st p.1) ∧ fresh0 p.1,fun y => iv y.code,yOut 37 root⟩]
 sel := selY
noncomputable def b118 : Code := Tryz.f118.body.getD .skip
noncomputable def b19 : Code := Tryz.f19.body.getD .skip
noncomputable def lR : List (FuncId × Ctr cod) := [(139,mkCtr inD),(48,mkCtr roomD),(27,mkCtr sizeD),(106,mkCtr clockD),(107,mkCtr seqD),(112,mkCtr stripeD),(117,mkCtr threadD),(85,mkCtr hashD),(113,mkCtr freshD),(123,mkCtr holderD),(124,mkCtr versionD),(143,mkCtr takenD),(84,mkCtr seekD),(83,mkCtr filtD),(141,labCtr rowsLD 39)]
noncomputable def lY : List (FuncId × Ctr cod) := (118,loopCtr F (lookC lR) 71 Tryz.f118 b118 (fun _ _ => []) (fun _ _ => 0)) :: lR
noncomputable def stepYC : Ctr cod := loopCtr F (lookC lY) 2000 Tryz.f19 b19 (fun _ _ => []) (fun _ _ => 0)
noncomputable def vcY (D : FrD cod) (s : D.St) (h : SH cod) : Tree := stepYC 0 (D.args s) (D.heap s h) (frFin D s h)
end Go.Proofs.YtmjjljngaefpaaaGreat

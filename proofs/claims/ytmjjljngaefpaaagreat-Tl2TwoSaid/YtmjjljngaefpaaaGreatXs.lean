/- Tl2Two: an attempt of the program's, and the memory that it works on: how they lie in objects. -/
import Derived.Test.YtmjjljngaefpaaaGreatPt
import Derived.Test.YtmjjljngaefpaaaGreatLib4
namespace Go.Proofs.YtmjjljngaefpaaaGreat
open Go.RowKit Go.Am Go.Sy
open Go.IntKind (i64 u64)
set_option linter.unusedVariables false
abbrev V := SV cod.T
abbrev Ob := Go.Sy.Obj cod.T
def li (n : Int) : V := .a (.int .i64 n)
def lb (b : Bool) : V := .a (.bool b)
def ln : V := .a .nils
def iv (n : Int) : V := .i .i64 n
structure XM where
 code : Int
 th : Int
 c : Int
 life : Int
 job : Int
 part : Int
 i : Nat
 at_ : Int
 row : Int
 seen : Int
 val : Int
 value : Int
 cause : Int
 stamp : Int
 made : Int
 bk : Int
 bst : Int
 bse : Int
 bsp : Int
 ph : Bool
 rs : List Wo
 ws : List Wo
 asked : Int
 rows : List Int
 tk : List Wo
 W : List Int
 steps : Int
 lk : Int
 la : Int
 lv : Int
 ls : Int
 ld : Bool
 ybk : Int
 ybst : Int
 ybse : Int
 ybsp : Int
structure LN where
 rs : Nat
 rows : Nat
 tk : Nat
def xTx (L : LN) (s : XM) : Ob := .cells [li 3,li 1,li 3,li 0,li 4,iv s.th,iv s.c,li 1000,.ptr 1 0,.ptr 2 0,ln,li s.life,li s.job,li s.part,iv (s.i : Int),iv s.at_,iv s.row,iv s.seen,iv s.val,.any,iv s.value,iv s.cause,iv s.stamp,iv s.made,li s.bk,li s.bst,iv s.bse,iv s.bsp,.R L.rows,.R L.tk,lb s.ph]
def xRs (L : LN) : Ob := .cells [li 32,.R L.rs]
def xWs (s : XM) : Ob := .cells [li 32,.R 4,.i .u64 (filtT s.ws),iv s.asked]
def xMem (s : XM) : Ob := .cells [.R 8,iv s.steps,iv s.lk,iv s.la,iv s.lv,iv s.ls,.b s.ld]
def xIn (s : XM) (h : SH cod) : SH cod := [some (xTx ⟨3,5,6⟩ s),some (xRs ⟨3,5,6⟩),some (xWs s),some (.rows 3 s.rs false 3),some (.rows 3 s.ws false 4),some (.rows 0 s.rows false 5),some (.rows 3 s.tk false 6),some (xMem s),some (.rows 0 s.W false 8)] ++ h.drop 9
def xOut (n root : Nat) (s : XM) (h : SH cod) : SH cod := [some (xTx ⟨n,n + 1,n + 2⟩ s),some (xRs ⟨n,n + 1,n + 2⟩),some (xWs s),none,some (.rows 3 s.ws false 4),none,none,some (xMem s),some (.rows 0 s.W false 8)] ++ h.drop 9 ++ [some (.rows 3 s.rs false 3),some (.rows 0 s.rows false root),some (.rows 3 s.tk false 6)]
def xFoot (j : Nat) : Bool := Nat.blt j 9
def fresh0 (s : XM) : Prop := s.job = 4 ∧ s.part = 4 ∧ s.ws ≠ []
def ltB (a b : Int) : Bool := decide (a < b)
def gtB (a b : Int) : Bool := decide (a > b)
def geB (a b : Int) : Bool := decide (a ≥ b)
def eqB (a b : Int) : Bool := a == b
def tick (k a v : Int) (d : Bool) (s : XM) : XM := { s with steps := i64.wrap (s.steps + 1),lk := k,la := a,lv := v,ls := at0 s.W a,ld := d }
def ldX (a : Int) (s : XM) : XM := tick 1 a (at0 s.W a) true s
def stX (a v : Int) (s : XM) : XM := { tick 2 a v true s with W := s.W.set a.toNat v }
def swX (a o v : Int) (s : XM) : XM := { tick 3 a v (at0 s.W a == o) s with W := bif (at0 s.W a == o) then s.W.set a.toNat v else s.W }
def adX (v : Int) (s : XM) : XM := { tick 4 0 1 true s with W := s.W.set 0 v }
def abX (c : Int) (s : XM) : XM := bif s.ph then { s with life := 3,cause := c,made := 0,job := 5,part := 0,i := 0,code := 0 } else { s with life := 3,cause := c,made := 0,job := 0,part := 0,i := 0,code := 2 }
def deX (s : XM) : XM := { s with life := 2,part := bif ltB ((0 : Int)) ((s.ws.length : Int)) then 9 else 11,i := 0,code := 0 }
def goX (k : Nat) (kI : Int) (s : XM) : XM := bif ltB (kI) ((s.rs.length : Int)) then (bif eqB (s.bk) (1) && (s.made == i64.wrap (s.stamp + 1)) then deX s else { s with part := 8,i := k,code := 0 }) else deX s
def buX (v : Int) (s : XM) : XM := bif gtB (v) (1000) then abX 5 { s with bst := 9,bsp := v,ybst := 9,ybsp := v } else goX 0 0 { s with bst := 9,bsp := v,ybst := 9,ybsp := v,made := v }
def readX' (s : XM) : XM :=
 if s.part = 0 then bif (freshT (at0 s.W (2 + s.row)) s.stamp != 0) then abX (freshT (at0 s.W (2 + s.row)) s.stamp) { ldX (2 + s.row) s with seen := at0 s.W (2 + s.row) } else { ldX (2 + s.row) s with seen := at0 s.W (2 + s.row),part := 1,code := 0 }
 else if s.part = 1 then { ldX s.at_ s with val := at0 s.W s.at_,part := 2,code := 0 }
 else bif (at0 s.W (2 + s.row) != s.seen) then abX 2 (ldX (2 + s.row) s) else { ldX (2 + s.row) s with part := 3,value := s.val,rs := bif !hasB s.rs s.row then s.rs ++ [⟨s.row,0⟩] else s.rs,job := 0,code := 1 }
def lockX (s : XM) : XM :=
 if s.part = 5 then bif !ltB (at0 s.W (2 + at0 s.rows (s.i : Int)) % 16 - 1) (0) then abX 1 { ldX (2 + at0 s.rows (s.i : Int)) s with seen := at0 s.W (2 + at0 s.rows (s.i : Int)) } else { ldX (2 + at0 s.rows (s.i : Int)) s with seen := at0 s.W (2 + at0 s.rows (s.i : Int)),part := 6,code := 0 }
 else bif (at0 s.W (2 + at0 s.rows (s.i : Int)) == s.seen) then
  (bif geB (((s.i + 1 : Nat) : Int)) ((s.rows.length : Int)) then { swX (2 + at0 s.rows (s.i : Int)) s.seen (s.seen - s.seen % 16 + s.th + 1) s with tk := s.tk ++ [⟨2 + at0 s.rows (s.i : Int),s.seen⟩],i := s.i + 1,part := 7,code := 0,ybk := s.c,ybst := 0,ybse := 0,ybsp := 0 }
   else { swX (2 + at0 s.rows (s.i : Int)) s.seen (s.seen - s.seen % 16 + s.th + 1) s with tk := s.tk ++ [⟨2 + at0 s.rows (s.i : Int),s.seen⟩],i := s.i + 1,part := 5,code := 0 })
  else abX 1 (swX (2 + at0 s.rows (s.i : Int)) s.seen (s.seen - s.seen % 16 + s.th + 1) s)
def bumpX (s : XM) : XM :=
 if s.bk = 1 then buX (i64.wrap (at0 s.W 0 + 1)) (adX (i64.wrap (at0 s.W 0 + 1)) s)
 else if s.bst = 0 then { ldX 0 s with bst := 1,bse := at0 s.W 0,ybst := 1,ybse := at0 s.W 0,code := 0 }
 else buX (bif (at0 s.W 0 == s.bse) then i64.wrap (s.bse + 1) else at0 s.W 0) (swX 0 s.bse (i64.wrap (s.bse + 1)) s)
def chX (v : Int) (s : XM) : XM :=
 bif geB (v % 16 - 1) (0) && (v % 16 - 1 != s.th) then abX 1 s else bif gtB (v / 16) (s.stamp) then abX 2 s else goX (s.i + 1) ((s.i + 1 : Nat) : Int) s
def endX (s : XM) : XM :=
 if s.part = 9 then bif ltB (((s.i + 1 : Nat) : Int)) ((s.ws.length : Int)) then { stX (at3 s.ws (s.i : Int)).pl (at3 s.ws (s.i : Int)).vl s with i := s.i + 1,code := 0 } else { stX (at3 s.ws (s.i : Int)).pl (at3 s.ws (s.i : Int)).vl s with part := 10,i := 0,code := 0 }
 else if s.part = 10 then { stX (2 + at0 s.rows (s.i : Int)) (s.made * 16) s with i := s.i + 1,part := bif geB (((s.i + 1 : Nat) : Int)) ((s.rows.length : Int)) then 11 else 10,code := 0 }
 else { stX (11 + 2 * s.th) 0 s with ph := false,stamp := bif gtB ((s.ws.length : Int)) (0) then s.made else s.stamp,job := 0,code := 1 }
def markX (s : XM) : XM := bif gtB ((s.ws.length : Int)) (0) then { stX (11 + 2 * s.th) 2 s with ph := true,rows := rowsT (s.ws.map (·.pl)),part := 5,bk := s.c,bst := 0,bse := 0,bsp := 0,code := 0 } else { stX (11 + 2 * s.th) 2 s with ph := true,life := 2,part := 11,i := 0,code := 0 }
def stepX (s : XM) : XM :=
 if s.job = 1 then { ldX 0 s with stamp := at0 s.W 0,job := 0,code := 1 }
 else if s.job = 2 then readX' s
 else if s.job = 4 then
  (if s.part = 4 then markX s else if s.part = 5 then lockX s else if s.part = 6 then lockX s else if s.part = 7 then bumpX s
   else if s.part = 8 then chX (at0 s.W (2 + (at3 s.rs (s.i : Int)).pl)) (ldX (2 + (at3 s.rs (s.i : Int)).pl) s) else endX s)
 else bif ltB ((s.i : Int)) ((s.tk.length : Int)) then { stX (at3 s.tk (s.i : Int)).pl (at3 s.tk (s.i : Int)).vl s with i := s.i + 1,code := 0 } else { stX (11 + 2 * s.th) 0 s with ph := false,job := 0,code := 2 }
def zb (s : XM) : XM := { s with ybk := 0,ybst := 0,ybse := 0,ybsp := 0 }
def rowsAt : V → Nat
 | .R 5 => 0
 | _ => 1
def selX (_ : V) (h : SH cod) : Nat := match hget h 0 with
 | some (.cells tx) => rowsAt (tx.getD 28 .any)
 | _ => 2
def xStepD (st : XM → XM) (I : XM → Prop) (root : Nat) : FrD cod where
 n := 34
 foot := xFoot
 St := XM
 I := I
 args := fun s => [.ptr 0 0,.ptr 7 0]
 heap := xIn
 outs := [⟨XM,fun s s' => s' = st s ∧ ¬ fresh0 s,fun s => iv s.code,xOut 34 5⟩,⟨XM,fun s s' => s' = st s ∧ fresh0 s,fun s => iv s.code,xOut 34 root⟩]
 sel := selX
noncomputable def lX : List (FuncId × Ctr cod) := [(88,mkCtr stripeD),(74,mkCtr threadD),(134,mkCtr seqD),(55,mkCtr clockD),(53,mkCtr sizeD),(86,mkCtr badD),(38,mkCtr mayD),(42,mkCtr hashD),(43,mkCtr roomD),(89,mkCtr freshD),(92,mkCtr atD),(96,mkCtr rowsD),(97,mkCtr placesD),(79,mkCtr bitD),(80,mkCtr findD),(81,mkCtr hasD),(128,mkCtr holderD),(129,mkCtr versionD),(132,mkCtr takenD),(137,mkCtr freeD)]
noncomputable def b18 : Code := Tryz.f18.body.getD .skip
noncomputable def stepC : Ctr cod := loopCtr F (lookC lX) 2000 Tryz.f18 b18 (fun _ _ => []) (fun _ _ => 0)
noncomputable def vcX (D : FrD cod) (s : D.St) (h : SH cod) : Tree := stepC 0 (D.args s) (D.heap s h) (frFin D s h)
end Go.Proofs.YtmjjljngaefpaaaGreat

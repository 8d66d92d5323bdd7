/- A pick of a run: what it walks through, whatever follows. Printed by a program (gen_ny.py). -/
import Derived.Test.YtmjjljngaefpaaaNx
namespace Go.Proofs.Ytmjjljngaefpaaa
open Go.RowKit Go.Am Go.Sy
open Go.IntKind (i64 u64)
set_option linter.unusedVariables false
def lowN : List (Option Ob) → Prop → Prop
 | [],P => P
 | o :: l,P => ltOO 60 o = true ∧ lowN l P
def eA (a b : Int) : Prop := AVal.int .i64 a = AVal.int .i64 b
def xQ (X s : XM) (P : Prop) : Prop := X.rs = s.rs ∧ X.ws = s.ws ∧ X.rows = s.rows ∧ X.tk = s.tk ∧ X.W = s.W ∧ X.steps = s.steps ∧ X.lk = s.lk ∧ X.la = s.la ∧ X.lv = s.lv ∧ X.ls = s.ls ∧ X.ld = s.ld ∧
 eA 32 32 ∧ filtT X.ws = filtT s.ws ∧ X.asked = s.asked ∧ eA 32 32 ∧ eA 3 3 ∧ eA 1 1 ∧ eA 3 3 ∧ eA 0 0 ∧ eA 4 4 ∧ X.th = s.th ∧ X.c = s.c ∧ eA 1000 1000 ∧ AVal.nils = AVal.nils ∧ eA X.life s.life ∧ eA X.job s.job ∧ eA X.part s.part ∧
 (X.i : Int) = (s.i : Int) ∧ X.at_ = s.at_ ∧ X.row = s.row ∧ X.seen = s.seen ∧ X.val = s.val ∧ X.value = s.value ∧ X.cause = s.cause ∧ X.stamp = s.stamp ∧ X.made = s.made ∧ eA X.bk s.bk ∧ eA X.bst s.bst ∧ X.bse = s.bse ∧ X.bsp = s.bsp ∧ AVal.bool X.ph = AVal.bool s.ph ∧ P
theorem xQ_mk (X : XM) {P : Prop} (h : P) : xQ X X P := ⟨rfl,rfl,rfl,rfl,rfl,rfl,rfl,rfl,rfl,rfl,rfl,rfl,rfl,rfl,rfl,rfl,rfl,rfl,rfl,rfl,rfl,rfl,rfl,rfl,rfl,rfl,rfl,rfl,rfl,rfl,rfl,rfl,rfl,rfl,rfl,rfl,rfl,rfl,rfl,rfl,rfl,h⟩
theorem lowN_mk {P : Prop} (h : P) : ∀ {l : List (Option Ob)},(∀ o,o ∈ l → ltOO 60 o = true) → lowN l P
 | [],_ => h
 | o :: l,hl => ⟨hl o List.mem_cons_self,lowN_mk h fun o' ho => hl o' (List.mem_cons_of_mem _ ho)⟩
def bxO : Option Ob := some (.cells [li 3,li 1,li 3,li 0,li 4])
def runI (p : List Op) (i : Int) (b : Bool) (e : Int) (rd : V) : Option Ob := some (.cells [.ptr 0 0,.tl (T := T) 2 p,iv i,lb b,li e,rd])
def heS (X : XM) (run o10 : Option Ob) (os : List (Option Ob)) (n : Nat) (t : SH cod) : SH cod := [some (xTx ⟨60,61,62⟩ X),some (xRs ⟨60,61,62⟩),some (xWs X),none,some (.rows 3 X.ws false 4),none,none,some (xMem X),some (.rows 0 X.W false 8),run,o10] ++ os ++ List.replicate n bxO ++ List.replicate (27 - n) none ++ [some (.rows 3 X.rs false 3),some (.rows 0 X.rows false 5),some (.rows 3 X.tk false 6)] ++ t
abbrev KT := V → SH cod → Tree
def i1 (i : Nat) : Int := i64.wrap ((i : Int) - 1)
def inP (i : Nat) (p : List Op) : Prop := 0 ≤ i1 i ∧ i1 i < (p.length : Int)
def aftQ (K : KT) (p : List Op) (i : Nat) (rd : List Wo) (os : List (Option Ob)) (n : Nat) (y : XM) : Prop :=
 ((y.code == 1) = true → (decide ((i : Int) > (p.length : Int)) = true → (K (.tup []) (heS y (runI p (i : Int) false 1 (.R 10)) (some (.rows 3 rd false 10)) os n [bxO])).holds) ∧ (decide ((i : Int) > (p.length : Int)) = false →
   (decide ((i : Int) > 0) = true → inP i p ∧ (((at2 p (i1 i)).kd == 0) = true → inP i p ∧ (rd.length + [Wo.mk (at2 p (i1 i)).pl y.value].length) * 16 ≤ 140737488355328 ∧ (K (.tup []) (heS y (runI p (i64.wrap ((i : Int) + 1)) false 0 (.R 65)) none os n [bxO,some (.cells [iv (at2 p (i1 i)).pl,iv y.value]),some (.rows 3 (rd ++ [⟨(at2 p (i1 i)).pl,y.value⟩]) false 10)])).holds) ∧
    (((at2 p (i1 i)).kd == 0) = false → (K (.tup []) (heS y (runI p (i64.wrap ((i : Int) + 1)) false 0 (.R 10)) (some (.rows 3 rd false 10)) os n [bxO])).holds)) ∧
   (decide ((i : Int) > 0) = false → (K (.tup []) (heS y (runI p (i64.wrap ((i : Int) + 1)) false 0 (.R 10)) (some (.rows 3 rd false 10)) os n [bxO])).holds))) ∧
 ((y.code == 1) = false → ((y.code == 2) = true → (K (.tup []) (heS y (runI p (i : Int) true 2 (.R 10)) (some (.rows 3 rd false 10)) os n [])).holds) ∧ ((y.code == 2) = false → (K (.tup []) (heS y (runI p (i : Int) true 0 (.R 10)) (some (.rows 3 rd false 10)) os n [])).holds))
def stpQ (K : KT) (p : List Op) (i : Nat) (rd : List Wo) (os : List (Option Ob)) (n : Nat) (X : XM) : Prop :=
 lowN os.reverse (∃ s : XM,xQ X s (goX' s ∧ (∀ y : XM,y = stepX s ∧ ¬fresh0 s → aftQ K p i rd os n y) ∧ True))
def rmP (X : XM) (i : Nat) (b : Bool) (rd : List Wo) : RM := ⟨X,false,0,0,0,i,b,0,rd⟩
theorem nb (X : XM) (i : Nat) (rd : List Wo) (p : List Op) (o : Nat → Option Ob) (K : KT) : Tree.holds (nextL lNb 0 nArgs (nInP p (rmP X i true rd) (hpF o 0 33)) K) = stpQ K p i rd (hpF o 11 22) 1 X := by kernel_rfl
def iniQ (K : KT) (p : List Op) (i : Nat) (rd : List Wo) (os : List (Option Ob)) (X : XM) (a : Int) : Prop :=
 hashD.pre (mp1,a,()) ∧ (decide (hashT a < 0) = true → Stuck "no") ∧ (decide (hashT a < 0) = false → roomD.pre (Rs.mk 32 X.rs,hashT a,()) ∧ AVal.bool true = AVal.bool true ∧ stpQ K p i rd os 2 { X with at_ := a,row := hashT a,job := 2,part := 0,i := 0 })
def rdB (X : XM) (a : Int) : Bool := u64.wrap ((BitVec.ofInt u64.bits (filtT X.ws) &&& BitVec.ofInt u64.bits (bitT a)).toNat : Int) == 0
def inrQ (K : KT) (p : List Op) (i : Nat) (rd : List Wo) (os : List (Option Ob)) (X : XM) (a : Int) : Prop :=
 (decide (a < 0) = true → iniQ K p i rd os X a) ∧ (decide (a < 0) = false → bitD.pre (a,()) ∧ (rdB X a = true → iniQ K p i rd os X a) ∧ (rdB X a = false → findD.pre (Wr.mk 32 X.ws (filtT X.ws),a,()) ∧ eA (findT X.ws a) (-1) ∧ iniQ K p i rd os { X with asked := i64.wrap (X.asked + 1) } a))
theorem ni (X : XM) (i : Nat) (rd : List Wo) (p : List Op) (o : Nat → Option Ob) (K : KT) : Tree.holds (nextL lNi 0 nArgs (nInP p (rmP { X with life := 1,job := 0,ph := false } i false rd) (hpF o 0 33)) K) =
 ((((i : Int) == 0) = true → Stuck "no") ∧ (((i : Int) == 0) = false → (decide ((i : Int) > (p.length : Int)) = true → Stuck "no") ∧ (decide ((i : Int) > (p.length : Int)) = false → inP i p ∧
   (((at2 p (i1 i)).kd == 0) = true → inP i p ∧ dataD.pre (mp1,(at2 p (i1 i)).pl,()) ∧ inrQ K p i rd (hpF o 11 22) { X with life := 1,job := 0,ph := false } (26 + 2 * (at2 p (i1 i)).pl)) ∧
   (((at2 p (i1 i)).kd == 0) = false → inP i p ∧ dataD.pre (mp1,(at2 p (i1 i)).pl,()) ∧ Stuck "no")))) := by kernel_rfl
def heB (X : XM) (run : Option Ob) (rd : List Wo) (os : List (Option Ob)) : SH cod := [some (.cells [li 3,li 1,li 3,li 0,li 4,iv X.th,iv X.c,li 1000,.ptr 1 0,.ptr 2 0,ln,li 1,li 0,li 0,li 0,iv X.at_,iv X.row,iv X.seen,iv X.val,.any,li 0,li 0,iv (at0 X.W 0),li 0,li X.bk,li X.bst,iv X.bse,iv X.bsp,ln,ln,lb false]),some (.cells [li 32,ln]),some (.cells [li 32,ln,.a (.int .u64 0),li 0]),
 some (.rows 3 X.rs false 3),some (.rows 3 X.ws false 4),some (.rows 0 X.rows false 5),some (.rows 3 X.tk false 6),some (.cells [.R 8,iv (i64.wrap (X.steps + 1)),li 1,li 0,iv (at0 X.W 0),iv (at0 X.W 0),lb true]),some (.rows 0 X.W false 8),run,some (.rows 3 rd false 10)] ++ os ++ [bxO,bxO,bxO]
theorem nn (X : XM) (i : Nat) (rd : List Wo) (p : List Op) (o : Nat → Option Ob) (K : KT) : Tree.holds (nextL lNn 0 nArgs (nInP p (rmP { X with life := 0,job := 0 } i false rd) (hpF o 0 33)) K) =
 ((((i : Int) == 0) = true → lenD.pre (Mw.mk X.W,()) ∧ sizeD.pre (mp1,()) ∧ eA 34 34 ∧ clockD.pre (mp1,()) ∧ badD.pre (Mw.mk X.W,(0 : Int),()) ∧ ((0 : Int) ≤ 0 ∧ (0 : Int) < (X.W.length : Int)) ∧ ((0 : Int) ≤ 0 ∧ (0 : Int) < (X.W.length : Int)) ∧
   (decide ((i : Int) > (p.length : Int)) = true → (K (.tup []) (heB X (runI p (i : Int) false 1 (.R 10)) rd (hpF o 11 22))).holds) ∧ (decide ((i : Int) > (p.length : Int)) = false →
    (decide ((i : Int) > 0) = true → inP i p ∧ (((at2 p (i1 i)).kd == 0) = true → inP i p ∧ Stuck "no") ∧ (((at2 p (i1 i)).kd == 0) = false → (K (.tup []) (heB X (runI p (i64.wrap ((i : Int) + 1)) false 0 (.R 10)) rd (hpF o 11 22))).holds)) ∧
    (decide ((i : Int) > 0) = false → (K (.tup []) (heB X (runI p (i64.wrap ((i : Int) + 1)) false 0 (.R 10)) rd (hpF o 11 22))).holds))) ∧
  (((i : Int) == 0) = false → (decide ((i : Int) > (p.length : Int)) = true → Stuck "no") ∧ (decide ((i : Int) > (p.length : Int)) = false → inP i p ∧ (((at2 p (i1 i)).kd == 0) = true → inP i p ∧ Stuck "no") ∧ (((at2 p (i1 i)).kd == 0) = false → inP i p ∧ Stuck "no")))) := by kernel_rfl
end Go.Proofs.Ytmjjljngaefpaaa

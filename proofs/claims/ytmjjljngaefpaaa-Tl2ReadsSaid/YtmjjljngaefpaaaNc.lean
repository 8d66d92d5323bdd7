/- A pick of a run that is ahead of its end: what it walks through. Printed by a program (gen_nc.py). -/
import Derived.Test.YtmjjljngaefpaaaNy
import Derived.Test.YtmjjljngaefpaaaNv
namespace Go.Proofs.Ytmjjljngaefpaaa
open Go.RowKit Go.Am Go.Sy
open Go.IntKind (i64 u64)
set_option linter.unusedVariables false
def heC (X : XM) (life part : Int) (bk : List V) (rw wc : V) (fl : Int) (o4 run o10 : Option Ob) (os t : SH cod) : SH cod := [some (.cells ([li 3,li 1,li 3,li 0,li 4,iv X.th,iv X.c,li 1000,.ptr 1 0,.ptr 2 0,ln,li life,li 4,li part,li 0,iv X.at_,iv X.row,iv X.seen,iv X.val,.any,iv X.value,iv X.cause,iv X.stamp,iv X.made] ++ bk ++ [rw,.R 6,lb true])),
 some (.cells [li 32,.R 3]),some (.cells [li 32,wc,.i .u64 fl,iv X.asked]),some (.rows 3 X.rs false 3),o4,some (.rows 0 X.rows false 5),some (.rows 3 X.tk false 6),
 some (.cells [.R 8,iv (i64.wrap (X.steps + 1)),li 2,iv (11 + 2 * X.th),li 2,iv (at0 X.W (11 + 2 * X.th)),lb true]),some (.rows 0 (X.W.set (11 + 2 * X.th).toNat 2) false 8),run,o10] ++ os ++ t
def thB (X : XM) : Prop := 0 ≤ 11 + 2 * X.th ∧ 11 + 2 * X.th < (X.W.length : Int)
def wR (ws : List Wo) : List Int := rowsT (ws.map fun x => x.pl)
def leC (K : KT) (p : List Op) (i : Int) (rd : List Wo) (X : XM) (ws : List Wo) (fl : Int) (wc : V) (o4 : Option Ob) (os b : SH cod) (n : Nat) (k part : Int) : Prop :=
 (K (.tup []) (heC X 1 part [li k,li 0,li 0,li 0] (.R (n + 2)) wc fl o4 (runI p i true 0 (.R 10)) (some (.rows 3 rd false 10)) os (b ++ [some (.rows 3 ws true n),some (.rows 0 (ws.map fun x => x.pl) true (n + 1)),some (.rows 0 (wR ws) true (n + 2)),some (.cells [li k,li 0,li 0,li 0])]))).holds
def l0C (K : KT) (p : List Op) (i : Int) (rd : List Wo) (X : XM) (fl : Int) (wc : V) (o4 : Option Ob) (os b : SH cod) (part : Int) : Prop :=
 (K (.tup []) (heC X 2 part [li X.bk,li X.bst,iv X.bse,iv X.bsp] (.R 5) wc fl o4 (runI p i true 0 (.R 10)) (some (.rows 3 rd false 10)) os b)).holds
def cmQ (K : KT) (p : List Op) (i : Int) (rd : List Wo) (X : XM) (ws : List Wo) (fl : Int) (wc : V) (o4 : Option Ob) (os b : SH cod) (n : Nat) : Prop :=
 lenD.pre (Mw.mk X.W,()) ∧ sizeD.pre (mp1,()) ∧ eA 34 34 ∧ threadD.pre (mp1,X.th,(0 : Int),()) ∧ badD.pre (Mw.mk X.W,11 + 2 * X.th,()) ∧ thB X ∧ thB X ∧ thB X ∧ thB X ∧
 (decide ((ws.length : Int) > 0) = true → ws.length * 16 ≤ 140737488355328 ∧ placesD.pre (ws,()) ∧ rowsD.pre (mp1,ws.map fun x => x.pl,()) ∧
  ((X.c == 1) = true → (decide (0 ≥ ((wR ws).length : Int)) = true → leC K p i rd X ws fl wc o4 os b n 1 7) ∧ (decide (0 ≥ ((wR ws).length : Int)) = false → leC K p i rd X ws fl wc o4 os b n 1 5)) ∧
  ((X.c == 1) = false → ((X.c == 2) = true → (decide (0 ≥ ((wR ws).length : Int)) = true → leC K p i rd X ws fl wc o4 os b n 2 7) ∧ (decide (0 ≥ ((wR ws).length : Int)) = false → leC K p i rd X ws fl wc o4 os b n 2 5)) ∧
    ((X.c == 2) = false → (decide (0 ≥ ((wR ws).length : Int)) = true → leC K p i rd X ws fl wc o4 os b n 0 7) ∧ (decide (0 ≥ ((wR ws).length : Int)) = false → leC K p i rd X ws fl wc o4 os b n 0 5)))) ∧
 (decide ((ws.length : Int) > 0) = false → (decide (0 < (ws.length : Int)) = true → l0C K p i rd X fl wc o4 os b 9) ∧ (decide (0 < (ws.length : Int)) = false → (decide (0 ≥ (X.rows.length : Int)) = true → l0C K p i rd X fl wc o4 os b 11) ∧ (decide (0 ≥ (X.rows.length : Int)) = false → l0C K p i rd X fl wc o4 os b 10)))
theorem nc (i : Nat) (X : XM) (rd : List Wo) (p : List Op) (o : Nat → Option Ob) (K : KT) : Tree.holds (nextL lNc 0 nArgs (nInP p (rmP { X with life := 1,job := 0,ph := false } i false rd) (hpF o 0 33)) K) =
 ((((i : Int) == 0) = true → Stuck "no") ∧ (((i : Int) == 0) = false → (decide ((i : Int) > (p.length : Int)) = true → cmQ K p (i : Int) rd X X.ws (filtT X.ws) (.R 4) (some (.rows 3 X.ws false 4)) (hpF o 11 22) [bxO,bxO] 35) ∧
   (decide ((i : Int) > (p.length : Int)) = false → inP i p ∧ (((at2 p (i1 i)).kd == 0) = true → inP i p ∧ Stuck "no") ∧ (((at2 p (i1 i)).kd == 0) = false → inP i p ∧ Stuck "no")))) := by kernel_rfl
def inK (k : Int) (p : List Op) : Prop := 0 ≤ k - 1 ∧ k - 1 < (p.length : Int)
def aKd (k : Int) (p : List Op) : Op := at2 p (k - 1)
def wAsk (k : Int) (p : List Op) (rd : List Wo) (com rest : Prop) : Prop := (false = true → Stuck "no") ∧ (false = false → (decide (k > (p.length : Int)) = true → com) ∧ (decide (k > (p.length : Int)) = false → inK k p ∧
 (((aKd k p).kd == 0) = true → inK k p ∧ dataD.pre (mp1,(aKd k p).pl,()) ∧ Stuck "no") ∧ (((aKd k p).kd == 0) = false → inK k p ∧ dataD.pre (mp1,(aKd k p).pl,()) ∧ valueD.pre (Rl.mk rd,Op.mk (aKd k p).kd (aKd k p).pl (aKd k p).vl,()) ∧ rest)))
def wPl (k : Int) (p : List Op) : Int := 26 + 2 * (aKd k p).pl
def wWo (k : Int) (p : List Op) (rd : List Wo) : Wo := ⟨wPl k p,vaT rd (Op.mk (aKd k p).kd (aKd k p).pl (aKd k p).vl)⟩
def fOr (fl a : Int) : Int := u64.wrap ((BitVec.ofInt u64.bits fl ||| BitVec.ofInt u64.bits (bitT a)).toNat : Int)
def wPut (k : Int) (p : List Op) (rd ws : List Wo) (fl : Int) (dead next : Prop) : Prop := hashD.pre (mp1,wPl k p,()) ∧ (decide (hashT (wPl k p) < 0) = true → Stuck "no") ∧ (decide (hashT (wPl k p) < 0) = false → (decide (wPl k p < 0) = true → Stuck "no") ∧ (decide (wPl k p < 0) = false →
 findD.pre (Wr.mk 32 ws fl,wPl k p,()) ∧ eA (findT ws (wPl k p)) (-1) ∧ (decide ((ws.length : Int) ≥ 32) = true → Stuck "no") ∧ (decide ((ws.length : Int) ≥ 32) = false → (ws.length + [wWo k p rd].length) * 16 ≤ 140737488355328 ∧ bitD.pre (wPl k p,()) ∧
  (decide (k > (p.length : Int)) = true → dead) ∧ (decide (k > (p.length : Int)) = false → (true = true → inK k p ∧ (((aKd k p).kd == 0) = true → inK k p ∧ Stuck "no") ∧ (((aKd k p).kd == 0) = false → next)) ∧ (true = false → next)))))
def wHe (X : XM) (k : Int) (p : List Op) (rd : List Wo) (wc : V) (fl : Int) (os t : SH cod) : SH cod := [some (xTx ⟨3,5,6⟩ X),some (xRs ⟨3,5,6⟩),some (.cells [li 32,wc,.i .u64 fl,iv X.asked]),some (.rows 3 X.rs false 3),none,some (.rows 0 X.rows false 5),some (.rows 3 X.tk false 6),some (xMem X),some (.rows 0 X.W false 8),runI p k false 1 (.R 10),some (.rows 3 rd false 10)] ++ os ++ t
def opO (k : Int) (p : List Op) : Option Ob := some (.cells [iv (aKd k p).kd,iv (aKd k p).pl,iv (aKd k p).vl])
def woO (w : Wo) : Option Ob := some (.cells [iv w.pl,iv w.vl])
def nwQ (K : KT) (X : XM) (rd : List Wo) (p : List Op) (os : SH cod) : Prop :=
 wAsk 3 p rd (Stuck "no") (wPut 3 p rd X.ws (filtT X.ws) (K (.tup []) (wHe X 3 p rd (.R 37) (fOr (filtT X.ws) (wPl 3 p)) os [bxO,bxO,opO 3 p,woO (wWo 3 p rd),some (.rows 3 (X.ws ++ [wWo 3 p rd]) false 4),bxO])).holds
  (wAsk 4 p rd (Stuck "no") (wPut 4 p rd (X.ws ++ [wWo 3 p rd]) (fOr (filtT X.ws) (wPl 3 p)) (K (.tup []) (wHe X 4 p rd (.R 42) (fOr (fOr (filtT X.ws) (wPl 3 p)) (wPl 4 p)) os [bxO,bxO,opO 3 p,woO (wWo 3 p rd),none,bxO,bxO,opO 4 p,woO (wWo 4 p rd),some (.rows 3 (X.ws ++ [wWo 3 p rd] ++ [wWo 4 p rd]) false 4),bxO])).holds
   (wAsk 5 p rd (cmQ K p 5 rd X (X.ws ++ [wWo 3 p rd] ++ [wWo 4 p rd]) (fOr (fOr (filtT X.ws) (wPl 3 p)) (wPl 4 p)) (.R 42) none os [bxO,bxO,opO 3 p,woO (wWo 3 p rd),none,bxO,bxO,opO 4 p,woO (wWo 4 p rd),some (.rows 3 (X.ws ++ [wWo 3 p rd] ++ [wWo 4 p rd]) false 4),bxO,bxO] 45) (Stuck "no")))))
theorem nw (X : XM) (rd : List Wo) (p : List Op) (o : Nat → Option Ob) (K : KT) : Tree.holds (nextL lNw 0 nArgs (nInP p (rmP { X with life := 1,job := 0,ph := false } 3 false rd) (hpF o 0 33)) K) =
 nwQ K { X with life := 1,job := 0,ph := false } rd p (hpF o 11 22) := by kernel_rfl
end Go.Proofs.Ytmjjljngaefpaaa

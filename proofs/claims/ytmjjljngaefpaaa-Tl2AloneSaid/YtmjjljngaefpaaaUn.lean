/- Tl2Undo: what its loops keep, part by part of an attempt. -/
import Derived.Test.YtmjjljngaefpaaaPt
namespace Go.Proofs.Ytmjjljngaefpaaa
open Go.RowKit Go.Am Go.Sy
set_option linter.unusedVariables false
abbrev V := SV cod.T
def li (n : Int) : V := .a (.int .i64 n)
def lb (b : Bool) : V := .a (.bool b)
def ln : V := .a .nils
def wT (ck s0 s1 s2 ph : Int) : List Int := [ck, 0, s0, s1, s2, 0, 0, 0, 0, 0, 0, 0, 0, ph, 0, 0, 0, 0, 0, 0, 0, 0, 0, 0, 0, 0, 0, 0, 0, 0, 0, 0, 0, 0]
def mkT (r : Int) (rows : List Int) : Int := if rows.contains r then 2 else 0
def wR (ck ph : Int) (rows : List Int) : List Int := wT ck (mkT 0 rows) (mkT 1 rows) (mkT 2 rows) ph
def takT (rows : List Int) : List Wo := rows.map fun r => ⟨2 + r, 0⟩
structure US where
  n : Nat
  i : Nat
  rd : List Wo
  rs : List Wo
  ws : List Wo
  xi : Nat
  a : Int
  c : Int
  bk : Int
  value : Int
  steps : Int
  asked : Int
  W : List Int
  rows : List Int
def runO (i : V) (busy : Bool) (en : Int) : Go.Sy.Obj cod.T := .cells [.ptr 1 0, .R 5, i, lb busy, li en, .R 6]
def memO (steps : Int) : Go.Sy.Obj cod.T := .cells [.R 9, .i .i64 steps, .any, .any, .any, .any, .any]
def mapO : Go.Sy.Obj cod.T := .cells [li 3, li 1, li 3, li 0, li 4]
def restO (p : List Op) (s : US) (W : List Int) : List (Go.Sy.Obj cod.T) :=
  [.cells [li 32, .R 7], .cells [li 32, .R 8, .i .u64 (filtT s.ws), .i .i64 s.asked], memO s.steps, .rows 2 p false 5, .rows 3 s.rd false 6, .rows 3 s.rs false 7, .rows 3 s.ws false 8, .rows 0 W false 9, mapO]
def b0 : List V := [li 0, li 0, li 0, li 0]
def bAny : List V := [.any, .any, .any, .any]
def unR (when cause : Int) (s : US) : List (Nat × V) := [(2, .i .i64 when), (3, .i .i64 cause), (9, .ptr 10 0), (10, .ptr 4 0), (14, .ptr 0 0), (15, .i .i64 (s.n : Int))]
def planOk (p : List Op) : Prop := p.length ≤ 8 ∧ ∀ o ∈ p, 0 ≤ o.pl ∧ o.pl < 4
def baseI (p : List Op) (s : US) : Prop := planOk p ∧ (s.c = 1 ∨ s.c = 2) ∧ s.i ≤ p.length + 1 ∧ s.rd.length ≤ s.i ∧ s.rs.length ≤ s.i ∧ s.ws.length ≤ s.i ∧ (∀ w ∈ s.ws, isData w.pl) ∧ ∀ w ∈ s.rs, 0 ≤ w.pl ∧ w.pl < 3
def fam (when cause : Int) (I : US → Prop) (objs : US → List (Go.Sy.Obj cod.T)) : CutD cod := ⟨US, I, fun s => 1000000 - s.n, unR when cause, objs⟩
def early (p : List Op) (w e : Int) (I : US → Prop) (i : US → V) (busy : Bool) (life job : Int) (part xi pl row seen val value : US → V) : CutD cod :=
  fam w e (fun s => baseI p s ∧ I s ∧ s.n ≤ 60) fun s => [runO (i s) busy 0, .cells ([li 3, li 1, li 3, li 0, li 4, li 1, .i .i64 s.c, li 1000, .ptr 2 0, .ptr 3 0, ln, li life, li job, part s, xi s, pl s, row s, seen s, val s, .any, value s, .any, li 0, li 0] ++ b0 ++ [ln, ln, lb false])] ++ restO p s (wT 0 0 0 0 0)
def any1 : US → V := fun _ => .any
def l1 (n : Int) : US → V := fun _ => li n
def iS : US → V := fun s => .i .i64 (s.i : Int)
def aS : US → V := fun s => .i .i64 s.a
def hS : US → V := fun s => .i .i64 (hashT s.a)
def vS : US → V := fun s => .i .i64 s.value
def xS : US → V := fun s => .i .i64 (s.xi : Int)
def k1 (p : List Op) (w e : Int) : CutD cod := early p w e (fun s => s.i = 0) (l1 0) false 0 0 (l1 0) (l1 0) any1 any1 any1 any1 vS
def k2 (p : List Op) (w e : Int) : CutD cod := early p w e (fun s => s.i = 0) (l1 0) true 1 1 (l1 0) (l1 0) any1 any1 any1 any1 vS
def k3 (p : List Op) (w e : Int) : CutD cod := early p w e (fun s => 1 ≤ s.i) iS false 1 0 any1 any1 any1 any1 any1 any1 vS
def readI (p : List Op) (s : US) : Prop := 1 ≤ s.i ∧ s.i ≤ p.length ∧ isData s.a
def k4 (p : List Op) (w e : Int) : CutD cod := early p w e (readI p) iS true 1 2 (l1 0) (l1 0) aS hS any1 any1 vS
def k5 (p : List Op) (w e : Int) : CutD cod := early p w e (readI p) iS true 1 2 (l1 1) (l1 0) aS hS (l1 0) any1 vS
def k6 (p : List Op) (w e : Int) : CutD cod := early p w e (readI p) iS true 1 2 (l1 2) (l1 0) aS hS (l1 0) (l1 0) vS
def k7 (p : List Op) (w e : Int) : CutD cod := early p w e (fun s => s.i = p.length + 1) iS true 1 4 (l1 4) (l1 0) any1 any1 any1 any1 vS
def lateI (p : List Op) (s : US) : Prop := baseI p s ∧ s.i = p.length + 1 ∧ s.n ≤ 60 ∧ s.ws ≠ [] ∧ s.rows = rowsT (s.ws.map (·.pl)) ∧ (s.bk = 1 ∨ s.bk = 2)
def late (p : List Op) (w e : Int) (I : US → Prop) (part : Int) (xi seen : US → V) (made : Int) (b : US → List V) (tk : US → List Int) (ck : Int) : CutD cod :=
  fam w e (fun s => lateI p s ∧ I s) fun s => [runO (iS s) true 0, .cells ([li 3, li 1, li 3, li 0, li 4, li 1, .i .i64 s.c, li 1000, .ptr 2 0, .ptr 3 0, ln, li 1, li 4, li part, xi s, .any, .any, seen s, .any, .any, vS s, .any, li 0, li made] ++ b s ++ [.R 11, .R 12, lb true])] ++ restO p s (wR ck 2 (tk s)) ++ [.rows 0 s.rows false 11, .rows 3 (takT (tk s)) false 12]
def bS (st sn : V) : US → List V := fun s => [.i .i64 s.bk, st, sn, li 0]
def k8 (p : List Op) (w e : Int) : CutD cod := late p w e (fun s => s.xi < s.rows.length) 5 xS any1 0 (bS (li 0) (li 0)) (fun s => s.rows.take s.xi) 0
def k9 (p : List Op) (w e : Int) : CutD cod := late p w e (fun s => s.xi < s.rows.length) 6 xS (l1 0) 0 (bS (li 0) (li 0)) (fun s => s.rows.take s.xi) 0
def rowIn (s : US) : Prop := s.rows.length ≤ 3 ∧ ∀ r ∈ s.rows, 0 ≤ r ∧ r < 3
structure DS where
  n : Nat
  xi : Nat
  T : List Int
  ck : Int
  steps : Int
  cz : Int
def L8 : List (List Int) := [[], [0], [1], [2], [0, 1], [0, 2], [1, 2], [0, 1, 2]]
def deadO (xi : V) (job : Int) (cz : Int) (taken phased : V) : Go.Sy.Obj cod.T :=
  .cells ([li 3, li 1, li 3, li 0, li 4, li 1, .any, li 1000, .any, .any, .any, li 3, li job, .any, xi, .any, .any, .any, .any, .any, .any, .i .i64 cz, .any, li 0] ++ bAny ++ [.any, taken, phased])
def runD : Go.Sy.Obj cod.T := .cells [.ptr 1 0, .any, .any, .any, .any, .any]
def memD (steps : Int) : Go.Sy.Obj cod.T := .cells [.R 3, .i .i64 steps, .any, .any, .any, .any, .any]
def u1 : CutD cod := ⟨DS, fun s => s.n ≤ 60, fun s => 100, fun s => [(9, .ptr 4 0), (10, .ptr 2 0), (14, .ptr 0 0), (16, .i .i64 s.cz), (17, li 2), (18, .i .i64 (s.n : Int))],
  fun s => [runD, deadO .any 0 s.cz .any .any, memD s.steps, .rows 0 (wT s.ck 0 0 0 0) false 3, mapO]⟩
structure PS where
  k : Nat
def opT (o : Op) : Op := ⟨IntKind.i64.wrap ((IntKind.u64.wrap o.kd).tmod 2), IntKind.i64.wrap ((IntKind.u64.wrap o.pl).tmod 4), o.vl⟩
def litN : V → Option Nat
  | .a (.int _ (.ofNat n)) => some n
  | _ => none
def litB : V → Option Bool
  | .a (.bool b) => some b
  | _ => none
def pickF (busy : Bool) (en life job part bst : Option Nat) : Option Nat :=
  match busy, en, life, job with
  | false, some 0, some 0, _ => some 1
  | true, some 0, some 1, some 1 => some 2
  | false, some 0, some 1, some 0 => some 3
  | true, some 0, some 1, some 2 => match part with
    | some 0 => some 4
    | some 1 => some 5
    | some 2 => some 6
    | _ => none
  | true, some 0, some 1, some 4 => match part with
    | some 4 => some 7
    | some 5 => some 8
    | some 6 => some 9
    | some 7 => (match bst with | some 0 => some 10 | some 1 => some 11 | _ => none)
    | some 8 => some 12
    | _ => none
  | true, some 0, some 2, _ => match part with
    | some 9 => some 13
    | some 10 => some 14
    | some 11 => some 15
    | _ => none
  | false, some 1, _, _ => some 16
  | _, _, _, _ => none
def selN (r : SR cod) (h : SH cod) : Nat := match hget h 0, hget h 1 with
  | some (.cells [_, _, _, busy, _, _]), some (.cells tx) => match litB busy, (tx[12]?).bind litN with
    | some true, some 2 => 1
    | some true, some 4 => 2
    | some false, _ => 0
    | _, _ => 9
  | _, _ => 9
noncomputable def tellCtr : Ctr cod := toldCtr (.bool true)
noncomputable def holderCtr : Ctr cod := fun wlo args h K => takeAll h [.int .i64] args fun (x : Int × Unit) => .need (x.1 = 0 ∨ x.1 = 2) (.fork (x.1 == 0) (K (.a (.int .i64 (-1))) h) (K (.a (.int .i64 1)) h))
noncomputable def lN : List (FuncId × Ctr cod) := [(17, mkCtr dataD), (18, mkCtr stripeD), (21, mkCtr threadD), (22, mkCtr seqD), (28, mkCtr clockD), (43, mkCtr sizeD), (50, mkCtr badD), (51, mkCtr mayD), (56, mkCtr hashD), (57, mkCtr roomD), (68, mkCtr valueD), (70, mkCtr freshD), (73, mkCtr atD), (76, mkCtr rowsD), (77, mkCtr placesD), (85, mkCtr bitD), (86, mkCtr findD), (87, mkCtr hasD), (90, holderCtr), (91, mkCtr versionD), (94, mkCtr takenD), (98, mkCtr freeD)]
noncomputable def b12 : Code := Try.f12.body.getD .skip
end Go.Proofs.Ytmjjljngaefpaaa

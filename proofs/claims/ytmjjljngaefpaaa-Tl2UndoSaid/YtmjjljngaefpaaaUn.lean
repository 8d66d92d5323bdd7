/- Tl2Undo: what its loops keep, part by part of an attempt. -/
import Derived.Test.YtmjjljngaefpaaaPt
namespace Go.Proofs.Ytmjjljngaefpaaa
open Go.RowKit Go.Am Go.Sy
set_option linter.unusedVariables false

abbrev V := SV cod.T
def li (n : Int) : V := .a (.int .i64 n)
def lb (b : Bool) : V := .a (.bool b)
def lu (n : Int) : V := .a (.int .u64 n)
def ln : V := .a .nils
/-- The words: the clock, the stripes, the phase of thread 1; the others are 0. -/
def wT (ck s0 s1 s2 ph : Int) : List Int := [ck, 0, s0, s1, s2, 0, 0, 0, 0, 0, 0, 0, 0, ph, 0, 0, 0, 0, 0, 0, 0, 0, 0, 0, 0, 0, 0, 0, 0, 0, 0, 0, 0, 0]
/-- Which stripes are taken. -/
def mkT (r : Int) (rows : List Int) : Int := if rows.contains r then 2 else 0
def wR (ck ph : Int) (rows : List Int) : List Int := wT ck (mkT 0 rows) (mkT 1 rows) (mkT 2 rows) ph
def takT (rows : List Int) : List Wo := rows.map fun r => ⟨2 + r, 0⟩
structure US where
  n : Nat
  i : Nat
  rd : List Wo
  rs : List Wo
  ws : List Wo
  xi : Nat
  a : Int
  c : Int
  bk : Int
  value : Int
  steps : Int
  asked : Int
  W : List Int
  rows : List Int
def runO (i : V) (busy : Bool) (en : Int) : Go.Sy.Obj cod.T := .cells [.ptr 1 0, .R 5, i, lb busy, li en, .R 6]
def txO (c : V) (life job part : Int) (xi pl row seen val value made : V) (b : List V) (rows taken phased : V) : Go.Sy.Obj cod.T :=
  .cells ([li 3, li 1, li 3, li 0, li 4, li 1, c, li 1000, .ptr 2 0, .ptr 3 0, ln, li life, li job, li part, xi, pl, row, seen, val, .any, value, .any, li 0, made] ++ b ++ [rows, taken, phased])
def memO (steps : Int) : Go.Sy.Obj cod.T := .cells [.R 9, .i .i64 steps, .any, .any, .any, .any, .any]
def mapO : Go.Sy.Obj cod.T := .cells [li 3, li 1, li 3, li 0, li 4]
/-- All objects but the first two. -/
def restO (p : List Op) (s : US) (W : List Int) : List (Go.Sy.Obj cod.T) :=
  [.cells [li 32, .R 7], .cells [li 32, .R 8, .i .u64 (filtT s.ws), .i .i64 s.asked], memO s.steps, .rows 2 p false 5, .rows 3 s.rd false 6, .rows 3 s.rs false 7, .rows 3 s.ws false 8, .rows 0 W false 9, mapO]
def b0 : List V := [li 0, li 0, li 0, li 0]
def bAny : List V := [.any, .any, .any, .any]
def unR (when cause : Int) (s : US) : List (Nat × V) := [(2, .i .i64 when), (3, .i .i64 cause), (9, .ptr 10 0), (10, .ptr 4 0), (14, .ptr 0 0), (15, .i .i64 (s.n : Int))]
def planOk (p : List Op) : Prop := p.length ≤ 8 ∧ ∀ o ∈ p, 0 ≤ o.pl ∧ o.pl < 4
/-- What is the same all the way to the decision. -/
def baseI (p : List Op) (s : US) : Prop := planOk p ∧ (s.c = 1 ∨ s.c = 2) ∧ s.i ≤ p.length + 1 ∧ s.rd.length ≤ s.i ∧ s.rs.length ≤ s.i ∧ s.ws.length ≤ s.i ∧ (∀ w ∈ s.ws, isData w.pl) ∧ ∀ w ∈ s.rs, 0 ≤ w.pl ∧ w.pl < 3
def fam (when cause : Int) (I : US → Prop) (objs : US → List (Go.Sy.Obj cod.T)) : CutD cod := ⟨US, I, fun s => 1000000 - s.n, unR when cause, objs⟩
def lateB (s : US) (st seen stamp : V) : List V := [.i .i64 s.bk, st, seen, stamp]

/-- An attempt that is not decided, no stripe taken yet. -/
def early (p : List Op) (w e : Int) (I : US → Prop) (i : US → V) (busy : Bool) (life job : Int) (part xi pl row seen val value : US → V) : CutD cod :=
  fam w e (fun s => baseI p s ∧ I s ∧ s.n ≤ 60) fun s => [runO (i s) busy 0, .cells ([li 3, li 1, li 3, li 0, li 4, li 1, .i .i64 s.c, li 1000, .ptr 2 0, .ptr 3 0, ln, li life, li job, part s, xi s, pl s, row s, seen s, val s, .any, value s, .any, li 0, li 0] ++ b0 ++ [ln, ln, lb false])] ++ restO p s (wT 0 0 0 0 0)
def any1 : US → V := fun _ => .any
def l1 (n : Int) : US → V := fun _ => li n
def iS : US → V := fun s => .i .i64 (s.i : Int)
def aS : US → V := fun s => .i .i64 s.a
def hS : US → V := fun s => .i .i64 (hashT s.a)
def vS : US → V := fun s => .i .i64 s.value
def xS : US → V := fun s => .i .i64 (s.xi : Int)
/-- Not begun; it begins; between; a read's parts; at the end of its plan. -/
def k1 (p : List Op) (w e : Int) : CutD cod := early p w e (fun s => s.i = 0) (l1 0) false 0 0 (l1 0) (l1 0) any1 any1 any1 any1 vS
def k2 (p : List Op) (w e : Int) : CutD cod := early p w e (fun s => s.i = 0) (l1 0) true 1 1 (l1 0) (l1 0) any1 any1 any1 any1 vS
def k3 (p : List Op) (w e : Int) : CutD cod := early p w e (fun s => 1 ≤ s.i) iS false 1 0 any1 any1 any1 any1 any1 any1 vS
def readI (p : List Op) (s : US) : Prop := 1 ≤ s.i ∧ s.i ≤ p.length ∧ isData s.a
def k4 (p : List Op) (w e : Int) : CutD cod := early p w e (readI p) iS true 1 2 (l1 0) (l1 0) aS hS any1 any1 vS
def k5 (p : List Op) (w e : Int) : CutD cod := early p w e (readI p) iS true 1 2 (l1 1) (l1 0) aS hS (l1 0) any1 vS
def k6 (p : List Op) (w e : Int) : CutD cod := early p w e (readI p) iS true 1 2 (l1 2) (l1 0) aS hS (l1 0) (l1 0) vS
def k7 (p : List Op) (w e : Int) : CutD cod := early p w e (fun s => s.i = p.length + 1) iS true 1 4 (l1 4) (l1 0) any1 any1 any1 any1 vS
/-- One that takes its stripes, bumps the clock, checks. -/
def lateI (p : List Op) (s : US) : Prop := baseI p s ∧ s.i = p.length + 1 ∧ s.n ≤ 60 ∧ s.ws ≠ [] ∧ s.rows = rowsT (s.ws.map (·.pl)) ∧ (s.bk = 1 ∨ s.bk = 2)
def late (p : List Op) (w e : Int) (I : US → Prop) (part : Int) (xi seen : US → V) (made : Int) (b : US → List V) (tk : US → List Int) (ck : Int) : CutD cod :=
  fam w e (fun s => lateI p s ∧ I s) fun s => [runO (iS s) true 0, .cells ([li 3, li 1, li 3, li 0, li 4, li 1, .i .i64 s.c, li 1000, .ptr 2 0, .ptr 3 0, ln, li 1, li 4, li part, xi s, .any, .any, seen s, .any, .any, vS s, .any, li 0, li made] ++ b s ++ [.R 11, .R 12, lb true])] ++ restO p s (wR ck 2 (tk s)) ++ [.rows 0 s.rows false 11, .rows 3 (takT (tk s)) false 12]
def bS (st sn : V) : US → List V := fun s => [.i .i64 s.bk, st, sn, li 0]
def k8 (p : List Op) (w e : Int) : CutD cod := late p w e (fun s => s.xi < s.rows.length) 5 xS any1 0 (bS (li 0) (li 0)) (fun s => s.rows.take s.xi) 0
def k9 (p : List Op) (w e : Int) : CutD cod := late p w e (fun s => s.xi < s.rows.length) 6 xS (l1 0) 0 (bS (li 0) (li 0)) (fun s => s.rows.take s.xi) 0
def k10 (p : List Op) (w e : Int) : CutD cod := late p w e (fun s => True) 7 any1 any1 0 (bS (li 0) (li 0)) (fun s => s.rows) 0
def k11 (p : List Op) (w e : Int) : CutD cod := late p w e (fun s => True) 7 any1 any1 0 (fun s => [li 2, li 1, li 0, li 0]) (fun s => s.rows) 0
def k12 (p : List Op) (w e : Int) : CutD cod := late p w e (fun s => s.xi < s.rs.length) 8 xS any1 1 (fun s => [.i .i64 s.bk, .any, .any, .any]) (fun s => s.rows) 1
/-- One that is decided: what it writes is not looked at. -/
def sureI (p : List Op) (s : US) : Prop := baseI p s ∧ s.i = p.length + 1 ∧ s.n ≤ 60 ∧ s.W.length = 34
def sureC (p : List Op) (w e : Int) (I : US → Prop) (busy : Bool) (en job : Int) (part xi made rows : US → V) (ro : US → List (Go.Sy.Obj cod.T)) : CutD cod :=
  fam w e (fun s => sureI p s ∧ I s) fun s => [runO (iS s) busy en, .cells ([li 3, li 1, li 3, li 0, li 4, li 1, .any, li 1000, .ptr 2 0, .ptr 3 0, ln, li 2, li job, part s, xi s, .any, .any, .any, .any, .any, vS s, .any, .any, made s] ++ bAny ++ [rows s, .any, .any])] ++ restO p s s.W ++ ro s
def rR : US → V := fun _ => .R 11
def rO : US → List (Go.Sy.Obj cod.T) := fun s => [.rows 0 s.rows false 11]
def rowIn (s : US) : Prop := s.rows.length ≤ 3 ∧ ∀ r ∈ s.rows, 0 ≤ r ∧ r < 3
def k13 (p : List Op) (w e : Int) : CutD cod := sureC p w e (fun s => s.xi < s.ws.length ∧ rowIn s) true 0 4 (l1 9) xS (l1 1) rR rO
def k14 (p : List Op) (w e : Int) : CutD cod := sureC p w e (fun s => s.xi < s.rows.length ∧ rowIn s) true 0 4 (l1 10) xS (l1 1) rR rO
def k15 (p : List Op) (w e : Int) : CutD cod := sureC p w e (fun s => True) true 0 4 (l1 11) any1 aS any1 fun _ => []
def k16 (p : List Op) (w e : Int) : CutD cod := sureC p w e (fun s => True) false 1 0 any1 any1 any1 any1 fun _ => []

/-! ### What is undone -/
structure DS where
  n : Nat
  xi : Nat
  T : List Int
  ck : Int
  steps : Int
  cz : Int
def L8 : List (List Int) := [[], [0], [1], [2], [0, 1], [0, 2], [1, 2], [0, 1, 2]]
def deadO (xi : V) (job : Int) (cz : Int) (taken phased : V) : Go.Sy.Obj cod.T :=
  .cells ([li 3, li 1, li 3, li 0, li 4, li 1, .any, li 1000, .any, .any, .any, li 3, li job, .any, xi, .any, .any, .any, .any, .any, .any, .i .i64 cz, .any, li 0] ++ bAny ++ [.any, taken, phased])
def runD : Go.Sy.Obj cod.T := .cells [.ptr 1 0, .any, .any, .any, .any, .any]
def memD (steps : Int) : Go.Sy.Obj cod.T := .cells [.R 3, .i .i64 steps, .any, .any, .any, .any, .any]
def undR (s : DS) (e : Int) : List (Nat × V) := [(9, .ptr 5 0), (10, .ptr 2 0), (14, .ptr 0 0), (16, .i .i64 s.cz), (17, li e), (18, .i .i64 (s.n : Int))]
def u0 : CutD cod := ⟨DS, fun s => s.T ∈ L8 ∧ s.xi ≤ s.T.length ∧ s.n + (s.T.length - s.xi) + 1 ≤ 60, fun s => 1000 - s.n, fun s => undR s 0,
  fun s => [runD, deadO (.i .i64 (s.xi : Int)) 5 s.cz (.R 4) (lb true), memD s.steps, .rows 0 (wR s.ck 2 (s.T.drop s.xi)) false 3, .rows 3 (takT s.T) false 4, mapO]⟩
def u1 : CutD cod := ⟨DS, fun s => s.n ≤ 60, fun s => 100, fun s => [(9, .ptr 4 0), (10, .ptr 2 0), (14, .ptr 0 0), (16, .i .i64 s.cz), (17, li 2), (18, .i .i64 (s.n : Int))],
  fun s => [runD, deadO .any 0 s.cz .any .any, memD s.steps, .rows 0 (wT s.ck 0 0 0 0) false 3, mapO]⟩

/-! ### The plan -/
structure PS where
  k : Nat
def opT (o : Op) : Op := ⟨IntKind.i64.wrap ((IntKind.u64.wrap o.kd).tmod 2), IntKind.i64.wrap ((IntKind.u64.wrap o.pl).tmod 4), o.vl⟩
def planC (l : List Op) (cl w e : Int) : CutD cod := ⟨Nat, fun k => k ≤ l.length ∧ l.length ≤ 8, fun k => 3000000 - k,
  fun k => [(0, .i .i64 cl), (1, .tl (T := T) 2 l), (2, .i .i64 w), (3, .i .i64 e), (9, .ptr 3 0), (10, .ptr 1 0), (12, .R 0), (13, .i .i64 (k : Int))],
  fun k => [.rows 2 ((l.take k).map opT) false 0, .cells [.R 2, li 0, li 0, li 0, li 0, li 0, lb false], .rows 0 (wT 0 0 0 0 0) false 2, mapO]⟩

/-! ### Which family it is -/
def litN : V → Option Nat
  | .a (.int _ (.ofNat n)) => some n
  | _ => none
def litB : V → Option Bool
  | .a (.bool b) => some b
  | _ => none
def pickF (busy : Bool) (en life job part bst : Option Nat) : Option Nat :=
  match busy, en, life, job with
  | false, some 0, some 0, _ => some 1
  | true, some 0, some 1, some 1 => some 2
  | false, some 0, some 1, some 0 => some 3
  | true, some 0, some 1, some 2 => match part with
    | some 0 => some 4
    | some 1 => some 5
    | some 2 => some 6
    | _ => none
  | true, some 0, some 1, some 4 => match part with
    | some 4 => some 7
    | some 5 => some 8
    | some 6 => some 9
    | some 7 => (match bst with | some 0 => some 10 | some 1 => some 11 | _ => none)
    | some 8 => some 12
    | _ => none
  | true, some 0, some 2, _ => match part with
    | some 9 => some 13
    | some 10 => some 14
    | some 11 => some 15
    | _ => none
  | false, some 1, _, _ => some 16
  | _, _, _, _ => none
noncomputable def selU (rid : Nat) (r : SR cod) (h : SH cod) : Option Nat :=
  bif Nat.beq rid 9 then some 0 else
  bif Nat.beq rid 26 then (match litN (r.get 17) with | some 0 => some 17 | some 2 => some 18 | _ => none) else
  match r.get 14 with
  | .ptr id _ => match hget h id with
    | some (.cells [.ptr id2 _, _, _, busy, en, _]) => match hget h id2 with
      | some (.cells tx) => match litB busy with
        | some b => pickF b (litN en) ((tx[11]?).bind litN) ((tx[12]?).bind litN) ((tx[13]?).bind litN) ((tx[25]?).bind litN)
        | none => none
      | _ => none
    | _ => none
  | _ => none
def cutsU (l p : List Op) (cl w e : Int) : List (Nat × CutD cod) :=
  [(9, planC l cl w e), (16, k1 p w e), (16, k2 p w e), (16, k3 p w e), (16, k4 p w e), (16, k5 p w e), (16, k6 p w e), (16, k7 p w e), (16, k8 p w e), (16, k9 p w e), (16, k10 p w e), (16, k11 p w e), (16, k12 p w e), (16, k13 p w e), (16, k14 p w e), (16, k15 p w e), (16, k16 p w e), (26, u0), (26, u1)]
def fU (l p : List Op) (cl w e : Int) : FnD cod := ⟨cutsU l p cl w e, .b true, []⟩

/-! ### A turn of an attempt, where nothing is under way -/
def nxC (p : List Op) (I : US → Prop) (m : US → Nat) (busy : Bool) (job : Int) (part xi at_ row : US → V) : LpD cod := ⟨12, US, fun s => baseI p s ∧ I s, m, fun s => [(0, .ptr 0 0), (1, .ptr 4 0), (5, .ptr 11 0)],
  fun s => [some (.cells [.ptr 1 0, .R 5, iS s, lb busy, li 0, .R 12]),
    some (.cells ([li 3, li 1, li 3, li 0, li 4, li 1, .i .i64 s.c, li 1000, .ptr 2 0, .ptr 3 0, ln, li 1, li job, part s, xi s, at_ s, row s, .any, .any, .any, vS s, .any, li 0, li 0] ++ b0 ++ [ln, ln, lb false])),
    some (.cells [li 32, .R 7]), some (.cells [li 32, .R 13, .i .u64 (filtT s.ws), .i .i64 s.asked]), some (memO s.steps), some (.rows 2 p false 5), none, some (.rows 3 s.rs false 7), none, some (.rows 0 (wT 0 0 0 0 0) false 9), some mapO, some mapO,
    some (.rows 3 s.rd false 6), some (.rows 3 s.ws false 8)]⟩
def nx0 (p : List Op) : LpD cod := nxC p (fun s => 1 ≤ s.i) (fun s => 100 - s.i) false 0 any1 any1 any1 any1
def nx1 (p : List Op) : LpD cod := nxC p (readI p) (fun s => 1) true 2 (l1 0) (l1 0) aS hS
def nx2 (p : List Op) : LpD cod := nxC p (fun s => s.i = p.length + 1) (fun s => 1) true 4 (l1 4) (l1 0) any1 any1
def famN (p : List Op) (args : List V) (h : SH cod) : List (Nat × LpD cod) := match hget h 0 with
  | some (.cells [_, _, .i _ _, .a (.bool false), _, _]) => [(2, nx0 p), (2, nx1 p), (2, nx2 p)]
  | _ => []
def selN (r : SR cod) (h : SH cod) : Nat := match hget h 0, hget h 1 with
  | some (.cells [_, _, _, busy, _, _]), some (.cells tx) => match litB busy, (tx[12]?).bind litN with
    | some true, some 2 => 1
    | some true, some 4 => 2
    | some false, _ => 0
    | _, _ => 9
  | _, _ => 9
noncomputable def tellCtr : Ctr cod := toldCtr (.bool true)
noncomputable def holderCtr : Ctr cod := fun wlo args h K => takeAll h [.int .i64] args fun (x : Int × Unit) => .need (x.1 = 0 ∨ x.1 = 2) (.fork (x.1 == 0) (K (.a (.int .i64 (-1))) h) (K (.a (.int .i64 1)) h))
noncomputable def lN : List (FuncId × Ctr cod) := [(17, mkCtr dataD), (18, mkCtr stripeD), (21, mkCtr threadD), (22, mkCtr seqD), (28, mkCtr clockD), (43, mkCtr sizeD), (50, mkCtr badD), (51, mkCtr mayD), (56, mkCtr hashD), (57, mkCtr roomD), (68, mkCtr valueD), (70, mkCtr freshD), (73, mkCtr atD), (76, mkCtr rowsD), (77, mkCtr placesD), (85, mkCtr bitD), (86, mkCtr findD), (87, mkCtr hasD), (90, holderCtr), (91, mkCtr versionD), (94, mkCtr takenD), (98, mkCtr freeD)]
noncomputable def b12 : Code := Try.f12.body.getD .skip
noncomputable def lU (p : List Op) : List (FuncId × Ctr cod) := [(7, tellCtr), (12, loopCtr F (lookC lN) 2000 Try.f12 b12 (famN p) selN)] ++ lN
noncomputable def b4 : Code := Try.f4.body.getD .skip
end Go.Proofs.Ytmjjljngaefpaaa

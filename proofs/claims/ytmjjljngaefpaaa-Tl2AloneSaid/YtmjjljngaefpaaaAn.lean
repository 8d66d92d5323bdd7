/- Tl2Alone: what its loops keep. -/
import Derived.Test.YtmjjljngaefpaaaWf
namespace Go.Proofs.Ytmjjljngaefpaaa
open Go.RowKit Go.Am Go.Sy
set_option linter.unusedVariables false
def aloR (s : US) : List (Nat × V) := [(5, .ptr 10 0), (6, .ptr 4 0), (9, .mapr 11), (12, .ptr 0 0), (13, .i .i64 (s.n : Int))]
def famA (I : US → Prop) (R : US → Nat) (objs : US → List (Go.Sy.Obj cod.T)) : CutD cod := ⟨US, fun s => I s ∧ s.n + R s ≤ 200, fun s => 1000000 - s.n, aloR, objs⟩
def earlyA (p : List Op) (I : US → Prop) (R : US → Nat) (i : US → V) (busy : Bool) (life job : Int) (part xi pl row seen val value : US → V) : CutD cod :=
  famA (fun s => baseW p s ∧ I s) R fun s => [runO (i s) busy 0, .cells ([li 3, li 1, li 3, li 0, li 4, li 1, .i .i64 s.c, li 1000, .ptr 2 0, .ptr 3 0, ln, li life, li job, part s, xi s, pl s, row s, seen s, val s, .any, value s, .any, li 0, li 0] ++ b0 ++ [ln, ln, lb false])] ++ restO p s (wT 0 0 0 0 0) ++ [.mp []]
def q1 (p : List Op) : CutD cod := earlyA p (fun s => s.i = 0) (fun s => 121) (l1 0) false 0 0 (l1 0) (l1 0) any1 any1 any1 any1 vS
def q2 (p : List Op) : CutD cod := earlyA p (fun s => s.i = 0) (fun s => 120) (l1 0) true 1 1 (l1 0) (l1 0) any1 any1 any1 any1 vS
def q3 (p : List Op) : CutD cod := earlyA p (fun s => 1 ≤ s.i) (fun s => 60 + 5 * (10 - s.i)) iS false 1 0 any1 any1 any1 any1 any1 any1 vS
def q4 (p : List Op) : CutD cod := earlyA p (fun s => False) (fun s => 59) iS true 1 2 (l1 0) (l1 0) aS hS any1 any1 vS
def q5 (p : List Op) : CutD cod := earlyA p (readI p) (fun s => 58 + 5 * (10 - s.i)) iS true 1 2 (l1 1) (l1 0) aS hS (l1 0) any1 vS
def q6 (p : List Op) : CutD cod := earlyA p (readI p) (fun s => 57 + 5 * (10 - s.i)) iS true 1 2 (l1 2) (l1 0) aS hS (l1 0) (l1 0) vS
def q7 (p : List Op) : CutD cod := earlyA p (fun s => False) (fun s => 56) iS true 1 4 (l1 4) (l1 0) any1 any1 any1 any1 vS
def lateA (p : List Op) (I : US → Prop) (R : US → Nat) (part : Int) (xi seen : US → V) (made : Int) (b : US → List V) (tk : US → List Int) (ck : Int) : CutD cod :=
  famA (fun s => baseW p s ∧ lateP p s ∧ I s) R fun s => [runO (iS s) true 0, .cells ([li 3, li 1, li 3, li 0, li 4, li 1, .i .i64 s.c, li 1000, .ptr 2 0, .ptr 3 0, ln, li 1, li 4, li part, xi s, .any, .any, seen s, .any, .any, vS s, .any, li 0, li made] ++ b s ++ [.R 12, .R 13, lb true])] ++ restO p s (wR ck 2 (tk s)) ++ [.mp [], .rows 0 s.rows false 12, .rows 3 (takT (tk s)) false 13]
def q8 (p : List Op) : CutD cod := lateA p (fun s => s.xi < s.rows.length) (fun s => 55 - 2 * s.xi) 5 xS any1 0 (bS (li 0) (li 0)) (fun s => s.rows.take s.xi) 0
def q9 (p : List Op) : CutD cod := lateA p (fun s => s.xi < s.rows.length) (fun s => 54 - 2 * s.xi) 6 xS (l1 0) 0 (bS (li 0) (li 0)) (fun s => s.rows.take s.xi) 0
def q10 (p : List Op) : CutD cod := lateA p (fun s => True) (fun s => 45) 7 any1 any1 0 (bS (li 0) (li 0)) (fun s => s.rows) 0
def q11 (p : List Op) : CutD cod := lateA p (fun s => True) (fun s => 44) 7 any1 any1 0 (fun s => [li 2, li 1, li 0, li 0]) (fun s => s.rows) 0
def q12 (p : List Op) : CutD cod := lateA p (fun s => s.xi < s.rs.length) (fun s => 43 - s.xi) 8 xS any1 1 (fun s => [.i .i64 s.bk, .any, .any, .any]) (fun s => s.rows) 1
def madeT (ws : List Wo) : Int := if ws.isEmpty then 0 else 1
def KeepL (ws : List Wo) (W : List Int) : Prop := (∀ q, isData q → (∀ w ∈ ws, w.pl ≠ q) → at0 W q = 0) ∧ at0 W 0 = madeT ws
def sureA (p : List Op) (I : US → Prop) (R : US → Nat) (busy : Bool) (en job : Int) (part xi stamp made rows : US → V) (ro : US → List (Go.Sy.Obj cod.T)) : CutD cod :=
  famA (fun s => baseW p s ∧ (s.i = p.length + 1 ∧ s.W.length = 34) ∧ I s) R fun s => [runO (iS s) busy en, .cells ([li 3, li 1, li 3, li 0, li 4, li 1, .any, li 1000, .ptr 2 0, .ptr 3 0, ln, li 2, li job, part s, xi s, .any, .any, .any, .any, .any, vS s, .any, stamp s, made s] ++ bAny ++ [rows s, .any, .any])] ++ restO p s s.W ++ [.mp []] ++ ro s
def sR : US → V := fun _ => .R 12
def sO : US → List (Go.Sy.Obj cod.T) := fun s => [.rows 0 s.rows false 12]
def writeI (s : US) : Prop := s.xi < s.ws.length ∧ rowIn s ∧ DoneL s.xi s.ws s.W ∧ KeepL s.ws s.W
def freeI (s : US) : Prop := s.xi < s.rows.length ∧ rowIn s ∧ DoneL 100 s.ws s.W ∧ KeepL s.ws s.W ∧ s.ws ≠ []
def leaveI (s : US) : Prop := DoneL 100 s.ws s.W ∧ KeepL s.ws s.W ∧ s.a = madeT s.ws
def doneI (s : US) : Prop := leaveI s ∧ at0 s.W 13 = 0
def q13 (p : List Op) : CutD cod := sureA p writeI (fun s => 29 - s.xi) true 0 4 (l1 9) xS (l1 0) (l1 1) sR sO
def q14 (p : List Op) : CutD cod := sureA p freeI (fun s => 18 - s.xi) true 0 4 (l1 10) xS (l1 0) (l1 1) sR sO
def q15 (p : List Op) : CutD cod := sureA p leaveI (fun s => 10) true 0 4 (l1 11) any1 (l1 0) aS any1 fun _ => []
def q16 (p : List Op) : CutD cod := sureA p doneI (fun s => 0) false 1 0 any1 any1 aS aS any1 fun _ => []
def planA (l : List Op) (cl : Int) : CutD cod := ⟨Nat, fun k => k ≤ l.length ∧ l.length ≤ 8, fun k => 3000000 - k,
  fun k => [(0, .i .i64 cl), (1, .tl (T := T) 2 l), (5, .ptr 3 0), (6, .ptr 1 0), (8, .R 0), (9, .mapr 4), (10, .i .i64 (k : Int))],
  fun k => [.rows 2 ((l.take k).map opT) false 0, .cells [.R 2, li 0, li 0, li 0, li 0, li 0, lb false], .rows 0 (wT 0 0 0 0 0) false 2, mapO, .mp []]⟩
def esT (k : Nat) (ws : List Wo) : List (Int × V) := (([0, 1, 2, 3] : List Int).take k).map fun j => ((at3 ws j).pl, .i .i64 (at3 ws j).vl)
def cntT (ws : List Wo) (d : Nat) : Nat := (ws.map (·.pl)).countP fun q => decide (q < 26 + 2 * (d : Int))
def finI (s : US) : Prop := s.W.length = 34 ∧ s.ws.length ≤ 9 ∧ (∀ w ∈ s.ws, isData w.pl) ∧ nodW s ∧ doneI s
def finO (k : Nat) (s : US) : List (Go.Sy.Obj cod.T) :=
  [.cells [.ptr 1 0, .any, .any, .any, li 1, .any], .cells ([.any, .any, .any, .any, .any, .any, .any, .any, .any, .any, .any, li 2, .any, .any, .any, .any, .any, .any, .any, .any, .any, .any, aS s, aS s] ++ bAny ++ [.any, .any, .any]),
   .cells [.R 3, .i .i64 s.steps, .any, .any, .any, .any, .any], .rows 0 s.W false 3, mapO, .mp (esT k s.ws), .rows 3 s.ws false 6]
def putI (k : Nat) (s : US) : Prop := finI s ∧ k ≤ s.ws.length
def cmpI (k d : Nat) (s : US) : Prop := finI s ∧ s.ws.length = k ∧ s.n = cntT s.ws d
def put (k : Nat) : CutD cod := ⟨US, putI k, fun s => 1000 - k, fun s => [(5, .ptr 4 0), (6, .ptr 2 0), (9, .mapr 5), (12, .ptr 0 0), (15, .R 6), (16, li k)], finO k⟩
def cmp (k d : Nat) : CutD cod := ⟨US, cmpI k d, fun s => 500 - d, fun s => [(5, .ptr 4 0), (6, .ptr 2 0), (9, .mapr 5), (12, .ptr 0 0), (15, .R 6), (17, .i .i64 (s.n : Int)), (18, li d)], finO k⟩
noncomputable def selA (rid : Nat) (r : SR cod) (h : SH cod) : Option Nat :=
  bif Nat.beq rid 10 then some 0 else
  bif Nat.beq rid 23 then (match r.get 9, litN (r.get 16) with
    | .mapr id, some k => match hget h id with
      | some (.mp es) => bif Nat.ble k 4 && Nat.beq es.length k then some (17 + k) else none
      | _ => none
    | _, _ => none) else
  bif Nat.beq rid 28 then (match r.get 9, litN (r.get 18) with
    | .mapr id, some d => match hget h id with
      | some (.mp es) => bif Nat.ble es.length 4 && Nat.ble d 4 then some (22 + 5 * es.length + d) else none
      | _ => none
    | _, _ => none) else
  match r.get 12 with
  | .ptr id _ => match hget h id with
    | some (.cells [.ptr id2 _, _, _, busy, en, _]) => match hget h id2 with
      | some (.cells tx) => match litB busy with
        | some b => pickF b (litN en) ((tx[11]?).bind litN) ((tx[12]?).bind litN) ((tx[13]?).bind litN) ((tx[25]?).bind litN)
        | none => none
      | _ => none
    | _ => none
  | _ => none
def cutsA (l p : List Op) (cl : Int) : List (Nat × CutD cod) :=
  [(10, planA l cl), (18, q1 p), (18, q2 p), (18, q3 p), (18, q4 p), (18, q5 p), (18, q6 p), (18, q7 p), (18, q8 p), (18, q9 p), (18, q10 p), (18, q11 p), (18, q12 p), (18, q13 p), (18, q14 p), (18, q15 p), (18, q16 p),
   (23, put 0), (23, put 1), (23, put 2), (23, put 3), (23, put 4),
   (28, cmp 0 0), (28, cmp 0 1), (28, cmp 0 2), (28, cmp 0 3), (28, cmp 0 4),
   (28, cmp 1 0), (28, cmp 1 1), (28, cmp 1 2), (28, cmp 1 3), (28, cmp 1 4),
   (28, cmp 2 0), (28, cmp 2 1), (28, cmp 2 2), (28, cmp 2 3), (28, cmp 2 4),
   (28, cmp 3 0), (28, cmp 3 1), (28, cmp 3 2), (28, cmp 3 3), (28, cmp 3 4),
   (28, cmp 4 0), (28, cmp 4 1), (28, cmp 4 2), (28, cmp 4 3), (28, cmp 4 4)]
def fA (l p : List Op) (cl : Int) : FnD cod := ⟨cutsA l p cl, .b true, []⟩
def nzC (p : List Op) (I : US → Prop) (m : US → Nat) (busy : Bool) (job : Int) (part xi at_ row : US → V) : LpD cod := ⟨13, US, fun s => baseW p s ∧ I s, m, fun s => [(0, .ptr 0 0), (1, .ptr 4 0), (5, .ptr 12 0)],
  fun s => [some (.cells [.ptr 1 0, .R 5, iS s, lb busy, li 0, .R 13]),
    some (.cells ([li 3, li 1, li 3, li 0, li 4, li 1, .i .i64 s.c, li 1000, .ptr 2 0, .ptr 3 0, ln, li 1, li job, part s, xi s, at_ s, row s, .any, .any, .any, vS s, .any, li 0, li 0] ++ b0 ++ [ln, ln, lb false])),
    some (.cells [li 32, .R 7]), some (.cells [li 32, .R 14, .i .u64 (filtT s.ws), .i .i64 s.asked]), some (memO s.steps), some (.rows 2 p false 5), none, some (rsO s 7), none, some (.rows 0 (wT 0 0 0 0 0) false 9), some mapO, some (.mp []), some mapO,
    some (rdO s 6), some (wsO s 8)]⟩
def nz0 (p : List Op) (i0 : Int) : LpD cod := nzC p (fun s => 1 ≤ s.i ∧ i0 ≤ s.i) (fun s => 100 - s.i) false 0 any1 any1 any1 any1
def nz1 (p : List Op) (i0 : Int) : LpD cod := nzC p (fun s => readI p s ∧ i0 ≤ s.i) (fun s => 1) true 2 (l1 0) (l1 0) aS hS
def nz2 (p : List Op) : LpD cod := nzC p (fun s => s.i = p.length + 1) (fun s => 1) true 4 (l1 4) (l1 0) any1 any1
def famZ (p : List Op) (args : List V) (h : SH cod) : List (Nat × LpD cod) := match hget h 0 with
  | some (.cells [_, _, .i _ i0, .a (.bool false), _, _]) => [(2, nz0 p i0), (2, nz1 p i0), (2, nz2 p)]
  | _ => []
noncomputable def lA (p : List Op) : List (FuncId × Ctr cod) := [(7, tellCtr), (60, mkCtr keysD), (12, loopCtr F (lookC lN) 2000 Try.f12 b12 (famZ p) selN)] ++ lN
noncomputable def b6 : Code := Try.f6.body.getD .skip
noncomputable abbrev cA (l p : List Op) (cl : Int) (rid : Nat) (c : CutD cod) (s : c.St) : Tree := cutS F (lookC (lA p)) 3000 Try.f6 b6 (fA l p cl) selA rid c s
end Go.Proofs.Ytmjjljngaefpaaa

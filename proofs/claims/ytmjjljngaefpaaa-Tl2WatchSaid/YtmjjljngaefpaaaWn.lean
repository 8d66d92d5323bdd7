/- Tl2Watch: what a turn of an attempt does, told by states; what its loops keep. -/
import Derived.Test.YtmjjljngaefpaaaUf
import Derived.Test.YtmjjljngaefpaaaLib4
namespace Go.Proofs.Ytmjjljngaefpaaa
open Go.RowKit Go.Am Go.Sy
set_option linter.unusedVariables false
abbrev Ob := Go.Sy.Obj cod.T
def wV (v ck s0 s1 s2 ph : Int) : List Int := [ck, 0, s0, s1, s2, 0, 0, 0, 0, v, 0, 0, 0, ph, 0, 0, 0, 0, 0, 0, 0, 0, 0, 0, 0, 0, 0, 0, 0, 0, 0, 0, 0, 0]
def wRv (v ck ph : Int) (rows : List Int) : List Int := wV v ck (mkT 0 rows) (mkT 1 rows) (mkT 2 rows) ph
def wat : List Wo := [⟨9, 0⟩]
structure Lay where
  rd : Nat
  rs : Nat
  ws : Nat
  rw : V
  tk : V
structure Shape where
  I : US → Prop
  R : US → Nat
  run : Lay → US → Ob
  tx : Lay → US → Ob
  W : US → List Int
def nodW (s : US) : Prop := (s.ws.map (·.pl)).Nodup
def baseW (p : List Op) (s : US) : Prop := baseI p s ∧ nodW s
def runW (busy : V) (en : Int) (i : US → V) (L : Lay) (s : US) : Ob := .cells [.ptr 1 0, .R 5, i s, busy, li en, .R L.rd]
def earlyW (p : List Op) (v : Int) (I : US → Prop) (R : US → Nat) (busy : Bool) (job : Int) (part xi pl row seen val : US → V) : Shape :=
  ⟨fun s => baseW p s ∧ I s, R, runW (lb busy) 0 iS, fun L s => .cells ([li 3, li 1, li 3, li 0, li 4, li 1, .i .i64 s.c, li 1000, .ptr 2 0, .ptr 3 0, .R 11, li 1, li job, part s, xi s, pl s, row s, seen s, val s, .any, vS s, .any, li 0, li 0] ++ b0 ++ [ln, ln, lb false]), fun s => wV v 0 0 0 0 0⟩
def shA (p : List Op) (v : Int) : Shape := earlyW p v (fun s => 1 ≤ s.i) (fun s => 60 + 5 * (10 - s.i)) false 0 any1 any1 any1 any1 any1 any1
def shB (p : List Op) (v : Int) : Shape := earlyW p v (readI p) (fun s => 59 + 5 * (10 - s.i)) true 2 (l1 1) (l1 0) aS hS (l1 0) any1
def shC (p : List Op) (v : Int) : Shape := earlyW p v (readI p) (fun s => 58 + 5 * (10 - s.i)) true 2 (l1 2) (l1 0) aS hS (l1 0) (l1 0)
def shD (p : List Op) (v : Int) : Shape := earlyW p v (readI p) (fun s => 57 + 5 * (10 - s.i)) true 2 (l1 3) (l1 0) aS hS any1 (l1 0)
def lateP (p : List Op) (s : US) : Prop := s.i = p.length + 1 ∧ s.ws ≠ [] ∧ s.rows = rowsT (s.ws.map (·.pl)) ∧ (s.bk = 1 ∨ s.bk = 2)
def lateW (p : List Op) (v : Int) (I : US → Prop) (R : US → Nat) (part : Int) (xi seen : US → V) (made : Int) (b : US → List V) (tk : US → List Int) (ck : Int) : Shape :=
  ⟨fun s => baseW p s ∧ lateP p s ∧ I s, R, runW (lb true) 0 iS, fun L s => .cells ([li 3, li 1, li 3, li 0, li 4, li 1, .i .i64 s.c, li 1000, .ptr 2 0, .ptr 3 0, .R 11, li 1, li 4, li part, xi s, .any, .any, seen s, .any, .any, vS s, .any, li 0, li made] ++ b s ++ [L.rw, L.tk, lb true]), fun s => wRv v ck 2 (tk s)⟩
def tkS (s : US) : List Int := s.rows.take s.xi
def shE (p : List Op) (v : Int) : Shape := lateW p v (fun s => s.xi < s.rows.length) (fun s => 55 - 2 * s.xi) 5 xS any1 0 (bS (li 0) (li 0)) tkS 0
def shF (p : List Op) (v : Int) : Shape := lateW p v (fun s => s.xi < s.rows.length) (fun s => 54 - 2 * s.xi) 6 xS (l1 0) 0 (bS (li 0) (li 0)) tkS 0
def shG (p : List Op) (v : Int) : Shape := lateW p v (fun s => True) (fun s => 45) 7 any1 any1 0 (bS (li 0) (li 0)) (fun s => s.rows) 0
def shH (p : List Op) (v : Int) : Shape := lateW p v (fun s => True) (fun s => 44) 7 any1 any1 0 (fun s => [li 2, li 1, li 0, li 0]) (fun s => s.rows) 0
def shI (p : List Op) (v : Int) : Shape := lateW p v (fun s => s.xi < s.rs.length) (fun s => 43 - s.xi) 8 xS any1 1 (fun s => [.i .i64 s.bk, .any, .any, .any]) (fun s => s.rows) 1
def lastP (p : List Op) (s : US) : Prop := s.i = p.length + 1 ∧ s.rows = rowsT (s.ws.map (·.pl)) ∧ (s.ws ≠ [] → s.a = 1)
def shJ (p : List Op) (v : Int) : Shape := ⟨fun s => baseW p s ∧ lastP p s, fun s => 30, runW (lb true) 0 iS, fun L s => .cells ([li 3, li 1, li 3, li 0, li 4, li 1, .i .i64 s.c, li 1000, .ptr 2 0, .ptr 3 0, .R 11, li 1, li 4, li 3, li 0, .any, .any, .any, .any, .any, vS s, .any, .any, aS s] ++ bAny ++ [L.rw, L.tk, lb true]), fun s => wRv v s.a 2 s.rows⟩
def DoneL (k : Nat) (ws : List Wo) (W : List Int) : Prop := ∀ j : Nat, j < k → j < ws.length → at0 W (at3 ws (j : Int)).pl = (at3 ws (j : Int)).vl
def sureW (p : List Op) (I : US → Prop) (R : US → Nat) (busy : Bool) (en job : Int) (part xi made : US → V) (rw : Lay → V) : Shape :=
  ⟨fun s => baseW p s ∧ (s.i = p.length + 1 ∧ s.W.length = 34) ∧ I s, R, runW (lb busy) en iS, fun L s => .cells ([li 3, li 1, li 3, li 0, li 4, li 1, .any, li 1000, .ptr 2 0, .ptr 3 0, .any, li 2, li job, part s, xi s, .any, .any, .any, .any, .any, vS s, .any, .any, made s] ++ bAny ++ [rw L, .any, .any]), fun s => s.W⟩
def shK (p : List Op) : Shape := sureW p (fun s => s.xi < s.ws.length ∧ rowIn s ∧ DoneL s.xi s.ws s.W) (fun s => 29 - s.xi) true 0 4 (l1 9) xS (l1 1) (·.rw)
def shL (p : List Op) : Shape := sureW p (fun s => s.xi < s.rows.length ∧ rowIn s ∧ DoneL 100 s.ws s.W) (fun s => 18 - s.xi) true 0 4 (l1 10) xS (l1 1) (·.rw)
def shM (p : List Op) : Shape := sureW p (fun s => DoneL 100 s.ws s.W) (fun s => 10) true 0 4 (l1 11) any1 aS fun _ => .any
def shN (p : List Op) : Shape := sureW p (fun s => DoneL 100 s.ws s.W) (fun s => 0) false 1 0 any1 any1 any1 fun _ => .any
def deadW (p : List Op) (I : US → Prop) (R : US → Nat) (busy : V) (en job : Int) (xi : US → V) (taken phased : Lay → V) (W : US → List Int) : Shape :=
  ⟨fun s => baseW p s ∧ I s, R, runW busy en any1, fun L s => .cells ([li 3, li 1, li 3, li 0, li 4, li 1, .any, li 1000, .ptr 2 0, .ptr 3 0, .any, li 3, li job, .any, xi s, .any, .any, .any, .any, .any, .any, li 3, .any, li 0] ++ bAny ++ [.any, taken L, phased L]), W⟩
def shP (p : List Op) : Shape := deadW p (fun s => s.rows ∈ L8 ∧ s.xi ≤ s.rows.length) (fun s => 20 - s.xi) (lb true) 0 5 xS (·.tk) (fun _ => lb true) fun s => wRv 1 s.a 2 (s.rows.drop s.xi)
def shQ (p : List Op) : Shape := deadW p (fun s => True) (fun s => 0) .any 2 0 any1 (fun _ => .any) (fun _ => .any) fun s => wV 1 s.a 0 0 0 0
def rdO (s : US) (j : Nat) : Ob := .rows 3 s.rd false j
def rsO (s : US) (j : Nat) : Ob := .rows 3 s.rs false j
def wsO (s : US) (j : Nat) : Ob := .rows 3 s.ws false j
def roO (s : US) (j : Nat) : Ob := .rows 0 s.rows false j
def tkO (l : List Int) (j : Nat) : Ob := .rows 3 (takT l) false j
def watO : Ob := .rows 3 wat false 11
def core (p : List Op) (x : Shape) (L : Lay) (s : US) (o6 o7 o8 : Option Ob) : List (Option Ob) :=
  [some (x.run L s), some (x.tx L s), some (.cells [li 32, .R L.rs]), some (.cells [li 32, .R L.ws, .i .u64 (filtT s.ws), .i .i64 s.asked]), some (memO s.steps), some (.rows 2 p false 5), o6, o7, o8, some (.rows 0 (x.W s) false 9), some mapO]
def lay0 (rw tk : V) : Lay := ⟨6, 7, 8, rw, tk⟩
def coreO (p : List Op) (x : Shape) (rw tk : V) (s : US) : List Ob :=
  [x.run (lay0 rw tk) s, x.tx (lay0 rw tk) s, .cells [li 32, .R 7], .cells [li 32, .R 8, .i .u64 (filtT s.ws), .i .i64 s.asked], memO s.steps, .rows 2 p false 5, rdO s 6, rsO s 7, wsO s 8, .rows 0 (x.W s) false 9, mapO]
def ob0 (p : List Op) (x : Shape) (s : US) : List Ob := coreO p x .any .any s ++ [watO]
def ob1 (p : List Op) (x : Shape) (tk : US → List Int) (s : US) : List Ob := coreO p x (.R 12) (.R 13) s ++ [watO, roO s 12, tkO (tk s) 13]
def ob2 (p : List Op) (x : Shape) (s : US) : List Ob := coreO p x (.R 11) .any s ++ [roO s 11]
def ob3 (p : List Op) (x : Shape) (s : US) : List Ob := coreO p x .any .any s
def ob4 (p : List Op) (x : Shape) (s : US) : List Ob := coreO p x .any (.R 11) s ++ [tkO s.rows 11]
def litC : V := .agg [li 3, li 1, li 3, li 0, li 4]
def pickW (busy : Bool) (en life job part bst : Option Nat) : Nat :=
  match busy, en, life, job with
  | false, some 0, some 1, some 0 => 1
  | true, some 0, some 1, some 2 => match part with
    | some 1 => 2
    | some 2 => 3
    | some 3 => 4
    | _ => 99
  | true, some 0, some 1, some 4 => match part with
    | some 5 => 5
    | some 6 => 6
    | some 7 => (match bst with | some 0 => 7 | some 1 => 8 | _ => 99)
    | some 8 => 9
    | some 3 => 10
    | _ => 99
  | true, some 0, some 2, _ => match part with
    | some 9 => 11
    | some 10 => 12
    | some 11 => 13
    | _ => 99
  | false, some 1, _, _ => 14
  | true, some 0, some 3, _ => 15
  | _, some 2, some 3, _ => 16
  | _, _, _, _ => 99
def pickH (h : SH cod) (id : Nat) : Nat := match hget h id with
  | some (.cells [.ptr id2 _, _, _, busy, en, _]) => match hget h id2 with
    | some (.cells tx) => (match litB busy with
      | some b => pickW b (litN en) ((tx[11]?).bind litN) ((tx[12]?).bind litN) ((tx[13]?).bind litN) ((tx[25]?).bind litN)
      | none => match litN en with
        | some 2 => 16
        | _ => 99)
    | _ => 99
  | _ => 99
def outW (x y : Int → Shape) (c : US → Prop) (heap : Shape → US → SH cod) : OutD cod US := ⟨US, fun s s' => c s ∧ (y s.n).I s' ∧ s'.n = s.n ∧ (y s.n).R s' < (x s.n).R s, fun s' => heap (y s'.n) s'⟩
def turn (pn : Nat) (x : Int → Shape) (ob : Shape → US → List Ob) (codes : List Nat) (outs : List (OutD cod US)) : SumD cod :=
  ⟨pn, US, fun s => (x s.n).I s ∧ s.n ≤ 1, fun s => [.ptr 0 0, .ptr 4 0, litC], fun s => (ob (x s.n) s).map some, outs, fun h => codes.idxOf (pickH h 0)⟩
def yes (s : US) : Prop := True
def at0v (s : US) : Prop := s.n = 0
def at1v (s : US) : Prop := s.n = 1
def shE0 (p : List Op) (v : Int) : Shape := ⟨fun s => (shE p v).I s ∧ s.xi = 0, (shE p v).R, (shE p v).run, (shE p v).tx, (shE p v).W⟩
def shJ0 (p : List Op) (v : Int) : Shape := ⟨fun s => (shJ p v).I s ∧ s.ws = [], (shJ p v).R, (shJ p v).run, (shJ p v).tx, (shJ p v).W⟩
def sm (ob : Shape → US → List Ob) : Shape → US → SH cod := fun x s => (ob x s).map some
def oAB (p : List Op) : OutD cod US := outW (shA p) (shB p) yes fun y s => core p y ⟨12, 7, 13, .any, .any⟩ s none (some (rsO s 7)) none ++ [some watO, some (rdO s 6), some (wsO s 8)]
def oAE (p : List Op) : OutD cod US := outW (shA p) (shE0 p) yes fun y s => core p y ⟨12, 7, 13, .R 14, ln⟩ s none (some (rsO s 7)) none ++ [some watO, some (rdO s 6), some (wsO s 8), some (roO s 17)]
def oAJ (p : List Op) : OutD cod US := outW (shA p) (shJ0 p) yes fun y s => core p y ⟨12, 7, 13, ln, ln⟩ s none (some (rsO s 7)) none ++ [some watO, some (rdO s 6), some (wsO s 8)]
def dA (p : List Op) : SumD cod := turn 12 (shA p) (ob0 p) [2, 5, 10] [oAB p, oAE p, oAJ p]
def oBC (p : List Op) : OutD cod US := outW (shB p) (shC p) yes (sm (ob0 p))
def dB (p : List Op) : SumD cod := turn 12 (shB p) (ob0 p) [3] [oBC p]
def oCD (p : List Op) : OutD cod US := outW (shC p) (shD p) yes (sm (ob0 p))
def dC (p : List Op) : SumD cod := turn 12 (shC p) (ob0 p) [4] [oCD p]
def oDA (p : List Op) : OutD cod US := outW (shD p) (shA p) at0v fun y s => core p y ⟨12, 13, 8, .any, .any⟩ s none none (some (wsO s 8)) ++ [some watO, some (rdO s 6), some (rsO s 7)]
def oDQ (p : List Op) : OutD cod US := outW (shD p) (fun _ => shQ p) at1v (sm (ob0 p))
def dD (p : List Op) : SumD cod := turn 12 (shD p) (ob0 p) [1, 16] [oDA p, oDQ p]
def obR (p : List Op) : Shape → US → List Ob := fun x => ob1 p x fun s => s.rows
def oEF (p : List Op) : OutD cod US := outW (shE p) (shF p) yes (sm fun x => ob1 p x tkS)
def dE (p : List Op) : SumD cod := turn 14 (shE p) (fun x => ob1 p x tkS) [6] [oEF p]
def oFE (p : List Op) : OutD cod US := outW (shF p) (shE p) yes fun y s => core p y ⟨6, 7, 8, .R 12, .R 14⟩ s (some (rdO s 6)) (some (rsO s 7)) (some (wsO s 8)) ++ [some watO, some (roO s 12), none, some (tkO (tkS s) 13)]
def oFG (p : List Op) : OutD cod US := outW (shF p) (shG p) yes fun y s => core p y ⟨6, 7, 8, .R 12, .R 14⟩ s (some (rdO s 6)) (some (rsO s 7)) (some (wsO s 8)) ++ [some watO, some (roO s 12), none, some (tkO s.rows 13)]
def dF (p : List Op) : SumD cod := turn 14 (shF p) (fun x => ob1 p x tkS) [5, 7] [oFE p, oFG p]
def oGH (p : List Op) : OutD cod US := outW (shG p) (shH p) yes (sm (obR p))
def oGJ (p : List Op) : OutD cod US := outW (shG p) (shJ p) yes (sm (obR p))
def dG (p : List Op) : SumD cod := turn 14 (shG p) (obR p) [8, 10] [oGH p, oGJ p]
def oHI (p : List Op) : OutD cod US := outW (shH p) (shI p) yes (sm (obR p))
def oHJ (p : List Op) : OutD cod US := outW (shH p) (shJ p) yes (sm (obR p))
def dH (p : List Op) : SumD cod := turn 14 (shH p) (obR p) [9, 10] [oHI p, oHJ p]
def oII (p : List Op) : OutD cod US := outW (shI p) (shI p) yes (sm (obR p))
def oIJ (p : List Op) : OutD cod US := outW (shI p) (shJ p) yes (sm (obR p))
def dI (p : List Op) : SumD cod := turn 14 (shI p) (obR p) [9, 10] [oII p, oIJ p]
def oJK (p : List Op) : OutD cod US := outW (shJ p) (fun _ => shK p) at0v fun y s => (coreO p y (.R 12) .any s).map some ++ [some watO, some (roO s 12), none]
def oJM (p : List Op) : OutD cod US := outW (shJ p) (fun _ => shM p) at0v fun y s => (coreO p y .any .any s).map some ++ [some watO, none, none]
def oJP (p : List Op) : OutD cod US := outW (shJ p) (fun _ => shP p) at1v fun y s => (coreO p y .any (.R 13) s).map some ++ [some watO, none, some (tkO s.rows 13)]
def dJ (p : List Op) : SumD cod := turn 14 (shJ p) (obR p) [11, 13, 15] [oJK p, oJM p, oJP p]
def oKK (p : List Op) : OutD cod US := outW (fun _ => shK p) (fun _ => shK p) yes (sm (ob2 p))
def oKL (p : List Op) : OutD cod US := outW (fun _ => shK p) (fun _ => shL p) yes (sm (ob2 p))
def oKM (p : List Op) : OutD cod US := outW (fun _ => shK p) (fun _ => shM p) yes fun y s => (ob3 p y s).map some ++ [none]
def dK (p : List Op) : SumD cod := turn 12 (fun _ => shK p) (ob2 p) [11, 12, 13] [oKK p, oKL p, oKM p]
def oLL (p : List Op) : OutD cod US := outW (fun _ => shL p) (fun _ => shL p) yes (sm (ob2 p))
def oLM (p : List Op) : OutD cod US := outW (fun _ => shL p) (fun _ => shM p) yes fun y s => (ob3 p y s).map some ++ [none]
def dL (p : List Op) : SumD cod := turn 12 (fun _ => shL p) (ob2 p) [12, 13] [oLL p, oLM p]
def oMN (p : List Op) : OutD cod US := outW (fun _ => shM p) (fun _ => shN p) yes (sm (ob3 p))
def dM (p : List Op) : SumD cod := turn 11 (fun _ => shM p) (ob3 p) [14] [oMN p]
def oPP (p : List Op) : OutD cod US := outW (fun _ => shP p) (fun _ => shP p) yes (sm (ob4 p))
def oPQ (p : List Op) : OutD cod US := outW (fun _ => shP p) (fun _ => shQ p) yes fun y s => (ob3 p y s).map some ++ [none]
def dP (p : List Op) : SumD cod := turn 12 (fun _ => shP p) (ob4 p) [15, 16] [oPP p, oPQ p]
def nyC (p : List Op) (h : SH cod) (I : US → Prop) (m : US → Nat) (busy : Bool) (job : Int) (part xi at_ row : US → V) : LpD cod := ⟨13, US, fun s => baseW p s ∧ I s, m, fun s => [(0, .ptr 0 0), (1, .ptr 4 0), (5, .ptr 12 0)],
  fun s => [some (.cells [.ptr 1 0, .R 5, iS s, lb busy, li 0, .R 13]),
    some (.cells ([li 3, li 1, li 3, li 0, li 4, li 1, .i .i64 s.c, li 1000, .ptr 2 0, .ptr 3 0, .R 11, li 1, li job, part s, xi s, at_ s, row s, .any, .any, .any, vS s, .any, li 0, li 0] ++ b0 ++ [ln, ln, lb false])),
    some (.cells [li 32, .R 7]), some (.cells [li 32, .R 14, .i .u64 (filtT s.ws), .i .i64 s.asked]), some (memO s.steps), some (.rows 2 p false 5), none, some (rsO s 7), none, hget h 9, some mapO, some watO, some mapO,
    some (rdO s 6), some (wsO s 8)]⟩
def ny0 (p : List Op) (h : SH cod) (i0 : Int) : LpD cod := nyC p h (fun s => 1 ≤ s.i ∧ i0 ≤ s.i) (fun s => 100 - s.i) false 0 any1 any1 any1 any1
def ny1 (p : List Op) (h : SH cod) (i0 : Int) : LpD cod := nyC p h (fun s => readI p s ∧ i0 ≤ s.i) (fun s => 1) true 2 (l1 0) (l1 0) aS hS
def ny2 (p : List Op) (h : SH cod) : LpD cod := nyC p h (fun s => s.i = p.length + 1) (fun s => 1) true 4 (l1 4) (l1 0) any1 any1
def famY (p : List Op) (args : List V) (h : SH cod) : List (Nat × LpD cod) := match hget h 0 with
  | some (.cells [_, _, .i _ i0, .a (.bool false), .a (.int _ (.ofNat 0)), _]) => [(2, ny0 p h i0), (2, ny1 p h i0), (2, ny2 p h)]
  | _ => []
noncomputable def goC (p : List Op) : Ctr cod := loopCtr F (lookC lN) 2000 Try.f12 b12 (famY p) selN
noncomputable def vcD (p : List Op) (D : SumD cod) (s : D.St) : Tree := goC p 0 (D.args s) (D.heap s) (sumFin D s)
def cut1 (w : Int) (x : Shape) (ob : Shape → US → List Ob) : CutD cod := ⟨US, fun s => x.I s ∧ s.n ≤ 60, fun s => 1000000 - s.n, fun s => [(2, .i .i64 w), (7, .ptr 10 0), (8, .ptr 4 0), (12, .ptr 0 0), (13, li 9), (14, .i .i64 (s.n : Int))], ob x⟩
def cut2 (sure : Bool) (x : Shape) (ob : Shape → US → List Ob) : CutD cod := ⟨US, fun s => x.I s ∧ s.n + x.R s ≤ 200, fun s => 10000 - s.n, fun s => [(7, .ptr 10 0), (8, .ptr 4 0), (12, .ptr 0 0), (15, lb sure), (16, .i .i64 (s.n : Int))], ob x⟩
def datL (ws : List Wo) : Prop := ∀ w ∈ ws, isData w.pl
def z1 : CutD cod := ⟨US, fun s => s.W.length = 34 ∧ s.ws.length ≤ 9 ∧ datL s.ws ∧ DoneL 100 s.ws s.W ∧ s.n ≤ s.ws.length, fun s => 100 - s.n, fun s => [(8, .ptr 1 0), (12, .ptr 0 0), (15, lb true), (18, .R 3), (19, .i .i64 (s.n : Int))],
  fun s => [.cells [.any, .any, .any, .any, li 1, .any], .cells [.R 2, .i .i64 s.steps, .any, .any, .any, .any, .any], .rows 0 s.W false 2, .rows 3 s.ws false 3]⟩
def z2 : CutD cod := ⟨US, fun s => s.ws.length ≤ 9 ∧ datL s.ws ∧ s.n ≤ s.ws.length, fun s => 100 - s.n, fun s => [(8, .ptr 2 0), (12, .ptr 0 0), (15, lb false), (18, .R 4), (19, .i .i64 (s.n : Int))],
  fun s => [.cells [.ptr 1 0, .any, .any, .any, li 2, .any], .cells ([.any, .any, .any, .any, .any, .any, .any, .any, .any, .any, .any, .any, .any, .any, .any, .any, .any, .any, .any, .any, .any, li 3, .any, .any] ++ bAny ++ [.any, .any, .any]), .cells [.R 3, .i .i64 s.steps, .any, .any, .any, .any, .any], .rows 0 (wV 1 s.a 0 0 0 0) false 3, .rows 3 s.ws false 4]⟩
def planW (l : List Op) (cl w : Int) : CutD cod := ⟨Nat, fun k => k ≤ l.length ∧ l.length ≤ 8, fun k => 3000000 - k,
  fun k => [(0, .i .i64 cl), (1, .tl (T := T) 2 l), (2, .i .i64 w), (7, .ptr 3 0), (8, .ptr 1 0), (10, .R 0), (11, .i .i64 (k : Int))],
  fun k => [.rows 2 ((l.take k).map opT) false 0, .cells [.R 2, li 0, li 0, li 0, li 0, li 0, lb false], .rows 0 (wT 0 0 0 0 0) false 2, mapO]⟩
noncomputable def selW (rid : Nat) (r : SR cod) (h : SH cod) : Option Nat :=
  bif Nat.beq rid 9 then some 0 else
  bif Nat.beq rid 30 then (match litB (r.get 15) with | some true => some 31 | some false => some 32 | _ => none) else
  match r.get 12 with
  | .ptr id _ => bif Nat.beq rid 19 then some (pickH h id) else some (pickH h id + 14)
  | _ => none
def obT (p : List Op) : Shape → US → List Ob := fun x => ob1 p x tkS
def cutsW (l p : List Op) (cl w : Int) : List (Nat × CutD cod) :=
  [(9, planW l cl w), (19, cut1 w (shA p 0) (ob0 p)), (19, cut1 w (shB p 0) (ob0 p)), (19, cut1 w (shC p 0) (ob0 p)), (19, cut1 w (shD p 0) (ob0 p)), (19, cut1 w (shE p 0) (obT p)), (19, cut1 w (shF p 0) (obT p)), (19, cut1 w (shG p 0) (obR p)), (19, cut1 w (shH p 0) (obR p)), (19, cut1 w (shI p 0) (obR p)), (19, cut1 w (shJ p 0) (obR p)), (19, cut1 w (shK p) (ob2 p)), (19, cut1 w (shL p) (ob2 p)), (19, cut1 w (shM p) (ob3 p)), (19, cut1 w (shN p) (ob3 p)),
   (25, cut2 false (shA p 1) (ob0 p)), (25, cut2 false (shB p 1) (ob0 p)), (25, cut2 false (shC p 1) (ob0 p)), (25, cut2 false (shD p 1) (ob0 p)), (25, cut2 false (shE p 1) (obT p)), (25, cut2 false (shF p 1) (obT p)), (25, cut2 false (shG p 1) (obR p)), (25, cut2 false (shH p 1) (obR p)), (25, cut2 false (shI p 1) (obR p)), (25, cut2 false (shJ p 1) (obR p)), (25, cut2 true (shK p) (ob2 p)), (25, cut2 true (shL p) (ob2 p)), (25, cut2 true (shM p) (ob3 p)), (25, cut2 true (shN p) (ob3 p)), (25, cut2 false (shP p) (ob4 p)), (25, cut2 false (shQ p) (ob3 p)), (30, z1), (30, z2)]
def fW (l p : List Op) (cl w : Int) : FnD cod := ⟨cutsW l p cl w, .b true, []⟩
def keysD : CtrD cod where
  pats := [.frow 5]
  pre := fun (x : Rs × Unit) => x.1.ls.length ≤ 1000
  res := fun x => .R 0
  objs := fun (x : Rs × Unit) => [.rows 0 (x.1.ls.map (·.pl)) true 0]
def keysC (l : List Wo) : CutD cod := ⟨Nat, fun i => i ≤ l.length, fun i => l.length - i,
  fun i => [(3, .R 0), (11, .tl (T := T) 3 l), (12, .i .i64 (l.length : Int)), (13, .i .i64 (i : Int))], fun i => [.rows 0 ((l.take i).map (·.pl)) true 0]⟩
def keysF (l : List Wo) : FnD cod := ⟨[(4, keysC l)], .R 0, [.rows 0 (l.map (·.pl)) true 0]⟩
noncomputable def b60 : Code := Try.f60.body.getD .skip
def codeE (h : SH cod) : Option Nat := match [1, 2, 3, 4, 5, 6, 7, 8, 9, 10, 11, 12, 13, 15].idxOf (pickH h 0) with | k => some k
noncomputable def nextC (p : List Op) : Ctr cod := pickCtr codeE [sumCtr (dA p), sumCtr (dB p), sumCtr (dC p), sumCtr (dD p), sumCtr (dE p), sumCtr (dF p), sumCtr (dG p), sumCtr (dH p), sumCtr (dI p), sumCtr (dJ p), sumCtr (dK p), sumCtr (dL p), sumCtr (dM p), sumCtr (dP p), goC p]
noncomputable def lW (p : List Op) : List (FuncId × Ctr cod) := [(7, tellCtr), (24, mkCtr lockD), (60, mkCtr keysD), (12, nextC p)] ++ lN
noncomputable def b5 : Code := Try.f5.body.getD .skip
noncomputable abbrev cW (l p : List Op) (cl w : Int) (rid : Nat) (c : CutD cod) (s : c.St) : Tree := cutS F (lookC (lW p)) 3000 Try.f5 b5 (fW l p cl w) selW rid c s
end Go.Proofs.Ytmjjljngaefpaaa

/- Tl2Watch: what a turn of an attempt does, told by states; what its loops keep. -/
import Derived.Test.YtmjjljngaefpaaaUf
import Derived.Test.YtmjjljngaefpaaaLib4
namespace Go.Proofs.Ytmjjljngaefpaaa
open Go.RowKit Go.Am Go.Sy
set_option linter.unusedVariables false
abbrev Ob := Go.Sy.Obj cod.T
structure Lay where
  rd : Nat
  rs : Nat
  ws : Nat
  rw : V
  tk : V
structure Shape where
  I : US → Prop
  R : US → Nat
  run : Lay → US → Ob
  tx : Lay → US → Ob
  W : US → List Int
def nodW (s : US) : Prop := (s.ws.map (·.pl)).Nodup
def baseW (p : List Op) (s : US) : Prop := baseI p s ∧ nodW s
def lateP (p : List Op) (s : US) : Prop := s.i = p.length + 1 ∧ s.ws ≠ [] ∧ s.rows = rowsT (s.ws.map (·.pl)) ∧ (s.bk = 1 ∨ s.bk = 2)
def DoneL (k : Nat) (ws : List Wo) (W : List Int) : Prop := ∀ j : Nat, j < k → j < ws.length → at0 W (at3 ws (j : Int)).pl = (at3 ws (j : Int)).vl
def rdO (s : US) (j : Nat) : Ob := .rows 3 s.rd false j
def rsO (s : US) (j : Nat) : Ob := .rows 3 s.rs false j
def wsO (s : US) (j : Nat) : Ob := .rows 3 s.ws false j
def litC : V := .agg [li 3, li 1, li 3, li 0, li 4]
def pickW (busy : Bool) (en life job part bst : Option Nat) : Nat :=
  match busy, en, life, job with
  | false, some 0, some 1, some 0 => 1
  | true, some 0, some 1, some 2 => match part with
    | some 1 => 2
    | some 2 => 3
    | some 3 => 4
    | _ => 99
  | true, some 0, some 1, some 4 => match part with
    | some 5 => 5
    | some 6 => 6
    | some 7 => (match bst with | some 0 => 7 | some 1 => 8 | _ => 99)
    | some 8 => 9
    | some 3 => 10
    | _ => 99
  | true, some 0, some 2, _ => match part with
    | some 9 => 11
    | some 10 => 12
    | some 11 => 13
    | _ => 99
  | false, some 1, _, _ => 14
  | true, some 0, some 3, _ => 15
  | _, some 2, some 3, _ => 16
  | _, _, _, _ => 99
def pickH (h : SH cod) (id : Nat) : Nat := match hget h id with
  | some (.cells [.ptr id2 _, _, _, busy, en, _]) => match hget h id2 with
    | some (.cells tx) => (match litB busy with
      | some b => pickW b (litN en) ((tx[11]?).bind litN) ((tx[12]?).bind litN) ((tx[13]?).bind litN) ((tx[25]?).bind litN)
      | none => match litN en with
        | some 2 => 16
        | _ => 99)
    | _ => 99
  | _ => 99
def turn (pn : Nat) (x : Int → Shape) (ob : Shape → US → List Ob) (codes : List Nat) (outs : List (OutD cod US)) : SumD cod :=
  ⟨pn, US, fun s => (x s.n).I s ∧ s.n ≤ 1, fun s => [.ptr 0 0, .ptr 4 0, litC], fun s => (ob (x s.n) s).map some, outs, fun h => codes.idxOf (pickH h 0)⟩
def yes (s : US) : Prop := True
def keysD : CtrD cod where
  pats := [.frow 5]
  pre := fun (x : Rs × Unit) => x.1.ls.length ≤ 1000
  res := fun x => .R 0
  objs := fun (x : Rs × Unit) => [.rows 0 (x.1.ls.map (·.pl)) true 0]
def keysC (l : List Wo) : CutD cod := ⟨Nat, fun i => i ≤ l.length, fun i => l.length - i,
  fun i => [(3, .R 0), (11, .tl (T := T) 3 l), (12, .i .i64 (l.length : Int)), (13, .i .i64 (i : Int))], fun i => [.rows 0 ((l.take i).map (·.pl)) true 0]⟩
def keysF (l : List Wo) : FnD cod := ⟨[(4, keysC l)], .R 0, [.rows 0 (l.map (·.pl)) true 0]⟩
noncomputable def b60 : Code := Try.f60.body.getD .skip
end Go.Proofs.Ytmjjljngaefpaaa

/- syncopelaw6.CheckProg: what holds at its places. -/
import Derived.Test.YtjboohjicdmidaaDoorUt
namespace Go.Proofs.YtjboohjicdmidaaDoor
open Go.RowKit Go.Am Go.Sy
set_option linter.unusedVariables false

/-- An instruction out of a row. -/
def insF (k : K4) (n : Int) (raw : Bool) : Instr := if raw = true then ⟨k.a, k.b, k.c, k.d, n⟩ else
  let op := IntKind.i64.wrap (1 + pk k.a 22)
  let b := pk k.c 4
  if op = 1 then ⟨op, pk k.b 4, 0, 0, n⟩
  else if op ≤ 7 then ⟨op, pk k.b 4, b, pk k.d 4, 0⟩
  else if op ≤ 9 then ⟨op, pk k.b 4, b, 0, n⟩
  else if op ≤ 11 then ⟨op, 0, b, 0, n⟩
  else if op = 13 then ⟨op, pk k.b 4, b.tmod 2, 0, 0⟩
  else if op = 14 ∨ op = 19 ∨ op = 20 ∨ op = 22 then ⟨op, 0, 0, 0, 0⟩
  else ⟨op, pk k.b 4, 0, 0, 0⟩
def inD : CtrD cod where
  pats := [.row 11, .int .i64, .bool]
  pre := fun x => True
  res := fun (x : K4 × Int × Bool × Unit) => .agg (enc2 (insF x.1 x.2.1 x.2.2.1))
  objs := fun x => []
noncomputable def b37 : Code := Tryd.f37.body.getD .skip
noncomputable def b7 : Code := Tryd.f7.body.getD .skip

/-- A config whose programs stand in a block of their own. -/
def encX (c : Config) (k : Nat) : List (SV cod.T) := (enc4 c).take 8 ++ [.R 1, .R 2, .R 3, .sl 1 4 0 k k false]
def objX (c : Config) (ps : List (List Instr)) (x : Rw) : List (Go.Sy.Obj cod.T) := [.cells (encX c ps.length), .rows 0 c.init false 1, .rows 1 c.locks false 2, .rows 0 c.conds false 3, .cells (ps.map fun p => .tl (T := T) 2 p), .cells (enc6 x)]
structure XpS where
  c : Config
  p : List Instr
  q : List Instr
  r : List Instr
def xpI (s : XpS) : Prop := (s.c.init.length ≤ 1000 ∧ s.c.locks.length ≤ 1000 ∧ s.c.conds.length ≤ 1000) ∧ s.p.length ≤ 48 ∧ s.q.length ≤ 48 ∧ s.r.length ≤ 48
def xpL (k : Nat) (s : XpS) : List (List Instr) := match k with
  | 1 => [s.p]
  | 2 => [s.p, s.q]
  | _ => [s.p, s.q, s.r]
def xp4 (a : Int) (out : Bool) (x : Rw) (k : Nat) : CutD cod := ⟨XpS, xpI, fun _ => 2, fun s => [(2, .i .i64 a), (4, .b out), (8, .ptr 5 0), (11, .ptr 0 0)], fun s => objX s.c (xpL k s) x⟩
def xp7 (a : Int) (out : Bool) (x : Rw) (k : Nat) (t : Int) : CutD cod := ⟨XpS, xpI, fun _ => 1, fun s => [(2, .i .i64 a), (4, .b out), (8, .ptr 5 0), (11, .ptr 0 0), (12, .i .i64 t)], fun s => objX s.c (xpL k s) x⟩
def xpF (a : Int) (out : Bool) (x : Rw) : FnD cod := ⟨[(4, xp4 a out x 1), (4, xp4 a out x 2), (4, xp4 a out x 3), (7, xp7 a out x 1 0), (7, xp7 a out x 2 0), (7, xp7 a out x 2 1), (7, xp7 a out x 3 0), (7, xp7 a out x 3 1), (7, xp7 a out x 3 2)], .b true, []⟩
noncomputable def q7 : List (FuncId × Ctr cod) := [(14, toldCtr (.bool true)), (15, mkCtr fwD), (21, mkCtr (akD small)), (37, mkCtr inD), (23, mkCtrL (C := cod) pgP (fun (x : List Int × Unit) => lenOk x.1) 2 (fun (x : List Int × Unit) => progL x.1))]
end Go.Proofs.YtjboohjicdmidaaDoor

/- syncopelaw6.CheckBuilt: what holds at its places. -/
import Derived.Test.YtjboohjicdmidaaDoorPc
namespace Go.Proofs.YtjboohjicdmidaaDoor
open Go.RowKit Go.Am Go.Sy
set_option linter.unusedVariables false

def pgD0 : CtrD cod where
  pats := [.row 4, .int .i64]
  pre := fun (x : Config × Int × Unit) => builtC x.1 ∧ 0 ≤ x.2.1 ∧ x.2.1 < x.1.progs.length
  res := fun x => .a .nili
  objs := fun x => []
def cfD0 : CtrD cod where
  pats := [.row 4]
  pre := fun (x : Config × Unit) => builtC x.1
  res := fun x => .a .nili
  objs := fun x => []
/-- A config whose lists may be turned. -/
def encR (c : Config) : List (SV cod.T) := (enc4 c).take 8 ++ [.R 1, .R 2, .R 3, .R 4]
def objR (c : Config) : List (Go.Sy.Obj cod.T) := [.cells (encR c), .rows 0 c.init false 1, .rows 1 c.locks false 2, .rows 0 c.conds false 3, .rows 3 c.progs false 4]
def ltC : CutD cod := ⟨Config × Nat, fun s => builtC s.1 ∧ s.2 ≤ s.1.progs.length, fun s => s.1.progs.length - s.2,
  fun s => [(5, .ptr 0 0), (6, .i .i64 s.2)], fun s => objR s.1⟩
noncomputable def q4 : List (FuncId × Ctr cod) := [(14, toldCtr (.bool true)), (15, mkCtr fwD), (16, mkCtr pgD0), (12, mkCtr cfD0), (23, mkCtrL (C := cod) pgP (fun (x : List Int × Unit) => lenOk x.1) 2 (fun (x : List Int × Unit) => progL x.1))]
end Go.Proofs.YtjboohjicdmidaaDoor

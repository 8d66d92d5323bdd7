/- check.Region: the first lock that is for a word. -/
import Derived.Test.YtjboohjicdmidaaDoorSx
namespace Go.Proofs.YtjboohjicdmidaaDoor
open Go.RowKit Go.Am Go.Sy
set_option linter.unusedVariables false

def has (d : Int) (x : Lock) : Bool := decide (x.len > 0) && (decide (d ≥ x.fr) && decide (IntKind.u64.wrap (IntKind.u64.wrap d - IntKind.u64.wrap x.fr) < IntKind.u64.wrap x.len))
def region (ls : List Lock) (d : Int) : Int := match ls.findIdx? (has d) with
  | some i => i
  | none => -1

def rgD : CtrD cod where
  pats := [.row 4, .int .i64]
  pre := fun x => x.1.locks.length ≤ 1000000
  res := fun x => .i .i64 (region x.1.locks x.2.1)
  objs := fun x => []
def rgC (c : Config) (d : Int) : CutD cod := ⟨Nat, fun i => i ≤ c.locks.length ∧ ∀ x ∈ c.locks.take i, has d x = false, fun i => c.locks.length - i,
  fun i => [(1, .i .i64 d), (8, .tl (T := T) 1 c.locks), (9, .i .i64 c.locks.length), (10, .i .i64 i)], fun _ => []⟩
def rgF (c : Config) (d : Int) : FnD cod := ⟨[(2, rgC c d)], .i .i64 (region c.locks d), []⟩
noncomputable def ctr0 : FuncId → Option (Ctr cod) := fun _ => none
theorem ctr0Ok : CtrOk F.S ctr0 := fun f c h => by cases h
noncomputable def b18 : Code := Tryd.f18.body.getD .skip
end Go.Proofs.YtjboohjicdmidaaDoor

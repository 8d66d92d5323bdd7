/- What a claim over the laid sentinels ends with: a world that meets the laid condition. Printed by a program (wip/tools/base.py). -/
import Derived.Test.YtjboohjicdmidaaDoorBase
import Derived.ChangeSame
import Derived.ChangeVars
import Derived.JoinedOf
import Derived.Stop.Joined
import Derived.ProofKit
import Derived.OpenShut
namespace Go.Proofs.YtjboohjicdmidaaDoor
open Go.ChangeShapes Go.WideShapes Go.ChangeAt Go.RowKit Go.Am
set_option linter.unusedVariables false

theorem own : ownKnob Tryd.prog.godebug = none := by kernel_rfl
theorem laidOut : laidOutB Tryd.prog = true := by kernel_rfl

def codeText (n : Nat) : ByteArray := { data := ((sentRows.getD n ("", 0, [])).2.2).toArray }
noncomputable def low : Nat := (World.holding Tryd.prog default ⟨#[], #[], []⟩).heap.size
/-- A world that meets the condition: the settled one, ten blocks for the sentinels, the variables' cells laid. -/
noncomputable def laidWorld (os : Os) : World :=
  let w0 := World.holding Tryd.prog os ⟨((List.range 10).map fun i => Obj.cells #[.string (codeText i)] 157).toArray, #[], []⟩
  let w1 := (List.range 10).foldl (fun (w : World) i => { w with heap := w.heap.modify (sentRows.getD i ("", 0, [])).2.1 fun
      | .cells _ t frozen => .cells #[.iface 135 (.pointer (some ⟨low + i, 0, none⟩))] t frozen
      | o => o }) w0
  { w1 with heap := w1.heap.modify 10 fun
      | .cells _ t frozen => .cells #[.iface 114 (.agg #[.pointer (some ⟨11, 35, none⟩)])] t frozen
      | o => o }
theorem laidWorld_met (os : Os) (args : Array Value) : laidMetH Tryd.prog laidL ((laidWorld os).forCall (fun _ _ => 0) ⟨#[], args, []⟩).memory :=
  laidMetH_of_parts (by exact laidMet_of_run' 8 (by kernel_rfl) (by kernel_rfl)) (by kernel_rfl)
end Go.Proofs.YtjboohjicdmidaaDoor

/- What the seat's runs over rows stand on. -/
import Derived.Test.YtomlcdalhihnaaaDoorBase
import Derived.Test.YtomlcdalhihnaaaDoorCod
namespace Go.Proofs.YtomlcdalhihnaaaDoor
open Go.RowKit Go.Am Go.Sy
set_option linter.unusedVariables false

/-- How each call ends: those that make memory and give it away. -/
def pol (f : FuncId) : Pol := if f == 45 || f == 46 || f == 47 || f == 48 || f == 51 || f == 52 || f == 53 || f == 19 || f == 40 || f == 10 || f == 11 || f == 12 || f == 13 || f == 14 || f == 32 || f == 33 || f == 29 || f == 30 || f == 31 || f == 42 then .fresh else .keep
def toldL : List (FuncId × AVal) := [(9, .bool true)]
theorem told_run {S : AStat} {n : Nat} {f : FuncId} {v : AVal} (h : (runA S n 0 f [] []).map (·.1) = some v) : ∃ H1, runA S n 0 f [] [] = some (v, H1) := by
  obtain ⟨⟨a, H⟩, h1, h2⟩ := Option.map_eq_some_iff.1 h
  subst h2
  exact ⟨H, h1⟩
theorem told : Told toldL := by
  intro x hx
  simp only [toldL, List.mem_singleton] at hx
  subst hx
  exact ⟨rfl, pol, 5000, told_run (by kernel_rfl)⟩
noncomputable def S : AStat := St pol toldL
theorem sOk : StatOk S := stOk pol told
noncomputable def F : Cf cod := ⟨S, fun _ => true⟩
theorem noExt : ExtNo F.S F.noExt := fun f _ av => rfl
theorem hookLow : HookLow F.S := sOk.low
end Go.Proofs.YtomlcdalhihnaaaDoor

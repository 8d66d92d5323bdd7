/- What the seat's runs over rows stand on. Printed by gen_gw.py. -/
import Derived.Test.YtomlcdalhihnaaaBase
import Derived.Test.YtomlcdalhihnaaaGp
namespace Go.Proofs.Ytomlcdalhihnaaa
open Go.RowKit Go.Am Go.Sy
set_option linter.unusedVariables false

def pol (f : FuncId) : Pol := if f == 7 || f == 8 then .fresh else .keep
def toldL : List (FuncId × AVal) := [(5, .bool true)]
theorem told_run {S : AStat} {n : Nat} {f : FuncId} {v : AVal} (h : (runA S n 0 f [] []).map (·.1) = some v) : ∃ H1, runA S n 0 f [] [] = some (v, H1) := by
  obtain ⟨⟨a, H⟩, h1, h2⟩ := Option.map_eq_some_iff.1 h
  subst h2
  exact ⟨H, h1⟩
theorem told : Told toldL := by
  intro x hx
  simp only [toldL, List.mem_singleton] at hx
  subst hx
  exact ⟨rfl, fun _ => .keep, 5000, told_run (by kernel_rfl)⟩
noncomputable def S : AStat := St pol toldL
theorem sOk : StatOk S := stOk pol told
noncomputable def F : Cf cod := ⟨S, fun f => true⟩
theorem noExt : ExtNo F.S F.noExt := fun f _ av => rfl
theorem hookLow : HookLow F.S := sOk.low
end Go.Proofs.Ytomlcdalhihnaaa

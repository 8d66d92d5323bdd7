/- What the seat's runs over rows stand on. -/
import Derived.Test.YtbbbpnaghipfmaaDoorRd
namespace Go.Proofs.YtbbbpnaghipfmaaDoor
open Go.RowKit Go.Am Go.Sy
set_option linter.unusedVariables false

/-- How each call ends: what an error is put into is sealed; those that make memory and give it away. -/
def pol (f : FuncId) : Pol := if f == 29 then .pure else if f == 3 || f == 4 || f == 5 || f == 6 || f == 7 then .keep else .fresh
noncomputable def S : AStat := St pol toldL
theorem sOk : StatOk S := stOk pol told
noncomputable def F : Cf cod := ⟨S, fun f => !(f == 44 || f == 117)⟩
theorem noExt : ExtNo F.S F.noExt := by
  intro f h av
  have h : (!(f == 44 || f == 117)) = true := h
  simp only [Bool.not_eq_true', Bool.or_eq_false_iff] at h
  show extF f av = none
  unfold extF
  rw [h.1, h.2]
  rfl
theorem hookLow : HookLow F.S := sOk.low
end Go.Proofs.YtbbbpnaghipfmaaDoor

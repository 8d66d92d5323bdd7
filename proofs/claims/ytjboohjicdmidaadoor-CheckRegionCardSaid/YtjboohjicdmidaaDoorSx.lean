/- What the seat's runs over rows stand on. -/
import Derived.Test.YtjboohjicdmidaaDoorHook
import Derived.Test.YtjboohjicdmidaaDoorCod
namespace Go.Proofs.YtjboohjicdmidaaDoor
open Go.RowKit Go.Am Go.Sy
set_option linter.unusedVariables false

/-- How each call ends: those that make memory and give it away. -/
def pol (f : FuncId) : Pol := if f == 9 || f == 23 || f == 38 || f == 11 || f == 18 then .fresh else .keep
def toldL : List (FuncId × AVal) := [(14, .bool true)]
theorem told : Told toldL := by
  intro x hx
  simp only [toldL, List.mem_singleton] at hx
  subst hx
  exact ⟨rfl, pol, 5000, runF_ok (hookSim pol []) 5000 (by kernel_rfl)⟩
noncomputable def S : AStat := St pol toldL
theorem sOk : StatOk S := stOk pol told
noncomputable def F : Cf cod := ⟨S, fun f => !(f == 43 || f == 88)⟩
theorem noExt : ExtNo F.S F.noExt := by
  intro f h av
  have h : (!(f == 43 || f == 88)) = true := h
  simp only [Bool.not_eq_true', Bool.or_eq_false_iff] at h
  show extF f av = none
  unfold extF
  rw [h.1, h.2]
  rfl
theorem hookLow : HookLow F.S := sOk.low
end Go.Proofs.YtjboohjicdmidaaDoor

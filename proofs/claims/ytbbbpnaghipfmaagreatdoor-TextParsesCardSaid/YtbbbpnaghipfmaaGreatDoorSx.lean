/- What the seat's runs over rows stand on. -/
import Derived.Test.YtbbbpnaghipfmaaGreatDoorRd
namespace Go.Proofs.YtbbbpnaghipfmaaGreatDoor
open Go.RowKit Go.Am Go.Sy
set_option linter.unusedVariables false

/-- How each call ends: programs, words, lines' words and what an error is put into are sealed; those that make memory and give it away. -/
def pol (f : FuncId) : Pol := if f == 8 || f == 11 || f == 13 || f == 18 || f == 32 then .pure else if f == 3 || f == 4 || f == 28 then .keep else .fresh
noncomputable def S : AStat := St pol toldL
theorem sOk : StatOk S := stOk pol told
noncomputable def F : Cf cod := ⟨S, fun f => !(f == 30 || f == 109)⟩
theorem noExt : ExtNo F.S F.noExt := by
  intro f h av
  have h : (!(f == 30 || f == 109)) = true := h
  simp only [Bool.not_eq_true', Bool.or_eq_false_iff] at h
  show extF f av = none
  unfold extF
  rw [h.1, h.2]
  rfl
theorem hookLow : HookLow F.S := sOk.low
theorem noneOk : CtrOk F.S (lookC ([] : List (FuncId × Ctr cod))) := fun f c h => by cases h
end Go.Proofs.YtbbbpnaghipfmaaGreatDoor

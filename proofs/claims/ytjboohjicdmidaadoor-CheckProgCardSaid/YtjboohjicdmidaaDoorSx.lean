/- What the seat's runs over rows stand on. -/
import Derived.Test.YtjboohjicdmidaaDoorBase
import Derived.Test.YtjboohjicdmidaaDoorCod
namespace Go.Proofs.YtjboohjicdmidaaDoor
open Go.RowKit Go.Am Go.Sy
set_option linter.unusedVariables false

/-- How each call ends: what an error is put into, and programs, are sealed; those that make memory and give it away. -/
def pol (f : FuncId) : Pol := if f == 25 || f == 23 || f == 38 then .pure else if f == 3 || f == 4 || f == 5 || f == 6 || f == 7 || f == 8 || f == 14 || f == 33 || f == 47 || f == 60 then .keep else .fresh
def toldL : List (FuncId × AVal) := [(14, .bool true)]
theorem told_run {S : AStat} {n : Nat} {f : FuncId} {v : AVal} (h : (runA S n 0 f [] []).map (·.1) = some v) : ∃ H1, runA S n 0 f [] [] = some (v, H1) := by
  obtain ⟨⟨a, H⟩, h1, h2⟩ := Option.map_eq_some_iff.1 h
  subst h2
  exact ⟨H, h1⟩
/-- For the one closed run: each call keeps. -/
def polT (f : FuncId) : Pol := if f == 9 || f == 23 || f == 38 || f == 11 || f == 18 then .fresh else .keep
theorem told : Told toldL := by
  intro x hx
  simp only [toldL, List.mem_singleton] at hx
  subst hx
  exact ⟨rfl, polT, 5000, told_run (by kernel_rfl)⟩
noncomputable def S : AStat := St pol toldL
theorem sOk : StatOk S := stOk pol told
noncomputable def F : Cf cod := ⟨S, fun f => !(f == 43 || f == 88)⟩
theorem noExt : ExtNo F.S F.noExt := by
  intro f h av
  have h : (!(f == 43 || f == 88)) = true := h
  simp only [Bool.not_eq_true', Bool.or_eq_false_iff] at h
  show extF f av = none
  unfold extF
  rw [h.1, h.2]
  rfl
theorem hookLow : HookLow F.S := sOk.low
end Go.Proofs.YtjboohjicdmidaaDoor

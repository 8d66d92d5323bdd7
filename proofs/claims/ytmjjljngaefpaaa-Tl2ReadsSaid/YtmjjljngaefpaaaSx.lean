/- What the seat's runs over rows stand on. -/
import Derived.Test.YtmjjljngaefpaaaBase
import Derived.Test.YtmjjljngaefpaaaCod
namespace Go.Proofs.Ytmjjljngaefpaaa
open Go.RowKit Go.Am Go.Sy
open Go.IntKind (i64 u64)
set_option linter.unusedVariables false
def freshL : List FuncId := [8,9,10,11,13,16,17,18,19,20,21,22,24,27,28,29,31,32,34,35,36,37,38,42,43,50,51,52,53,54,56,57,60,61,64,65,66,68,70,73,74,75,76,77,78,81,85,86,87,88,90,91,92,94,98]
def pol (f : FuncId) : Pol := if freshL.any (Nat.beq f) then .fresh else .keep
def toldL : List (FuncId × AVal) := [(7,.bool true)]
theorem told_run {S : AStat} {n : Nat} {f : FuncId} {v : AVal} (h : (runA S n 0 f [] []).map (·.1) = some v) : ∃ H1,runA S n 0 f [] [] = some (v,H1) := by
 obtain ⟨⟨a,H⟩,h1,h2⟩ := Option.map_eq_some_iff.1 h
 subst h2
 exact ⟨H,h1⟩
theorem told : Told toldL := by
 intro x hx
 simp only [toldL,List.mem_singleton] at hx
 subst hx
 exact ⟨rfl,pol,100000,told_run (by kernel_rfl)⟩
noncomputable def S : AStat := St pol toldL
theorem sOk : StatOk S := stOk pol told
noncomputable def F : Cf cod := ⟨S,fun f => true⟩
theorem noExt : ExtNo F.S F.noExt := fun f _ av => rfl
theorem hookLow : HookLow F.S := sOk.low
theorem noneOk : CtrOk F.S (lookC ([] : List (FuncId × Ctr cod))) := fun f c h => by cases h
end Go.Proofs.Ytmjjljngaefpaaa

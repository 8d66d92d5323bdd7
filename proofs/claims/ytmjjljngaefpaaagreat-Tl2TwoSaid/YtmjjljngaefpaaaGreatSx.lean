/- What the seat's runs over rows stand on. -/
import Derived.Test.YtmjjljngaefpaaaGreatBase
import Derived.Test.YtmjjljngaefpaaaGreatCod
namespace Go.Proofs.YtmjjljngaefpaaaGreat
open Go.RowKit Go.Am Go.Sy
open Go.IntKind (i64 u64)
set_option linter.unusedVariables false
def freshL : List FuncId := [5,6,7,8,13,20,22,24,25,26,27,28,29,30,31,32,36,38,39,40,42,43,45,48,49,52,53,55,66,67,68,69,70,71,72,73,74,75,76,77,78,79,80,81,83,84,85,86,88,89,92,93,95,96,97,98,99,102,106,107,111,112,113,117,123,124,127,128,129,130,132,134,137,138,139,141,143,144]
def pol (f : FuncId) : Pol := if freshL.any (Nat.beq f) then .fresh else .keep
def toldL : List (FuncId × AVal) := [(4,.bool true)]
theorem told_run {S : AStat} {n : Nat} {f : FuncId} {v : AVal} (h : (runA S n 0 f [] []).map (·.1) = some v) : ∃ H1,runA S n 0 f [] [] = some (v,H1) := by
 obtain ⟨⟨a,H⟩,h1,h2⟩ := Option.map_eq_some_iff.1 h
 subst h2
 exact ⟨H,h1⟩
theorem told : Told toldL := by
 intro x hx
 simp only [toldL,qb1] at hx
 subst hx
 exact ⟨rfl,pol,100000,told_run (by kernel_rfl)⟩
def litL : List (FuncId × List Int × Int) := [(27,[],34),(138,[1,0,0,0],0),(138,[2,0,0,0],1),(138,[3,0,0,0],2),(138,[3,1,0,0],3),(138,[3,2,0,0],4),(138,[5,0,0,0],11),(138,[5,1,0,0],13),(138,[5,2,0,0],15)]
noncomputable def litB (x : FuncId × List Int × Int) : Bool := match runA (St pol [] []) 100000 0 x.1 (argL x.2.1) [] with
 | some (.int .i64 m,_) => m == x.2.2
 | _ => false
theorem lit0 : litB (27,[],34) = true := by kernel_rfl
theorem lit1 : litB (138,[1,0,0,0],0) = true := by kernel_rfl
theorem lit2 : litB (138,[2,0,0,0],1) = true := by kernel_rfl
theorem lit3 : litB (138,[3,0,0,0],2) = true := by kernel_rfl
theorem lit4 : litB (138,[3,1,0,0],3) = true := by kernel_rfl
theorem lit5 : litB (138,[3,2,0,0],4) = true := by kernel_rfl
theorem lit6 : litB (138,[5,0,0,0],11) = true := by kernel_rfl
theorem lit7 : litB (138,[5,1,0,0],13) = true := by kernel_rfl
theorem lit8 : litB (138,[5,2,0,0],15) = true := by kernel_rfl
theorem litB_ok {x : FuncId × List Int × Int} (h : litB x = true) : ∃ pol n H1,runA (St pol [] []) n 0 x.1 (argL x.2.1) [] = some (.int .i64 x.2.2,H1) := by
 unfold litB at h
 split at h
 ·rename_i m H1 e
  simp only [beq_iff_eq] at h
  subst h
  exact ⟨pol,100000,H1,e⟩
 ·cases h
theorem lits : Lits litL := by
 intro x hx
 simp only [litL,qn,qs,or_false] at hx
 rcases hx with rfl | rfl | rfl | rfl | rfl | rfl | rfl | rfl | rfl
 ·exact litB_ok lit0
 ·exact litB_ok lit1
 ·exact litB_ok lit2
 ·exact litB_ok lit3
 ·exact litB_ok lit4
 ·exact litB_ok lit5
 ·exact litB_ok lit6
 ·exact litB_ok lit7
 ·exact litB_ok lit8
noncomputable def S : AStat := St pol toldL litL
theorem sOk : StatOk S := stOk pol told lits
noncomputable def F : Cf cod := ⟨S,fun f => true⟩
theorem noExt : ExtNo F.S F.noExt := fun f _ av => rfl
theorem hookLow : HookLow F.S := sOk.low
theorem noneOk : CtrOk F.S (lookC ([] : List (FuncId × Ctr cod))) := fun f c h => by cases h
end Go.Proofs.YtmjjljngaefpaaaGreat

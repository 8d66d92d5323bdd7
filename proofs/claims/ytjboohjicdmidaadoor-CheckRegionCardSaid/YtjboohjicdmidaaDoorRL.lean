/- syncopelaw6.CheckRegion: what holds at its loop's head. -/
import Derived.Test.YtjboohjicdmidaaDoorRgP
namespace Go.Proofs.YtjboohjicdmidaaDoor
open Go.RowKit Go.Am Go.Sy
set_option linter.unusedVariables false

noncomputable def ctr1 : FuncId → Option (Ctr cod) := fun f => bif Nat.beq f 18 then some (mkCtr rgD) else bif Nat.beq f 14 then some (toldCtr (.bool true)) else none
theorem ctr1Ok : CtrOk F.S ctr1 := by
  intro f c h
  unfold ctr1 at h
  cases h1 : Nat.beq f 18 with
  | true =>
    rw [h1] at h
    simp only [cond_true, Option.some.injEq] at h
    subst h
    rw [Nat.beq_eq] at h1
    subst h1
    exact rg_ok
  | false =>
    rw [h1] at h
    cases h2 : Nat.beq f 14 with
    | true =>
      rw [h2] at h
      simp only [cond_true, cond_false, Option.some.injEq] at h
      subst h
      rw [Nat.beq_eq] at h2
      subst h2
      exact toldCtr_ok rfl
    | false => rw [h2] at h; simp at h
noncomputable def b5 : Code := Tryd.f5.body.getD .skip
def lawC (ls : List Lock) (d : Int) : CutD cod := ⟨Nat, fun i => i ≤ ls.length ∧ ls.length ≤ 6, fun i => ls.length - i,
  fun i => [(0, .tl (T := T) 1 ls), (1, .i .i64 d), (6, .i .i64 (region ls d)), (7, .i .i64 i)], fun _ => []⟩
def lawD (ls : List Lock) (d : Int) : FnD cod := ⟨[(6, lawC ls d)], .b true, []⟩
end Go.Proofs.YtjboohjicdmidaaDoor

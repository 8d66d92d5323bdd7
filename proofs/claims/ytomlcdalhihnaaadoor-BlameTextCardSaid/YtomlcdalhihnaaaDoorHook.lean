/- The seat's hooks over trees. Printed by a program (wip/tools/base.py). -/
import Derived.Test.YtomlcdalhihnaaaDoorBase
namespace Go.Proofs.YtomlcdalhihnaaaDoor
open Go.RowKit Go.Am
/-! ### The hooks over trees -/
noncomputable def asHookT : HookT := fun lo args h =>
  match args with
  | [.nili, _] => some (.bool false, h)
  | [.iface u a, .iface q (.ptr b off)] =>
    match nk a, h.get b with
    | some (.p, false), some (some (.cells cs)) =>
      if q = 54 ∧ lo ≤ b ∧ off < cs.length then
        if u = 52 then some (.bool true, h.set b (some (.cells (splice cs off [a]))))
        else if u = 119 then some (.bool false, h) else none
      else none
    | _, _ => none
  | _ => none
noncomputable def hookT (l : List (FuncId × AVal)) (f : FuncId) : Option HookT :=
  if f == 23 then some asHookT else (l.find? fun x => x.1 == f).map fun x => fun _ args h => match args with | [] => some (x.2, h) | _ => none
theorem hookSim (pol : FuncId → Pol) (l : List (FuncId × AVal)) : HookSim (St pol l) (hookT l) := by
  intro f
  unfold hookT
  simp only [St, toldHook]
  by_cases hf : (f == 23) = true
  · simp only [hf, if_true]
    intro lo args h r h' ho e
    unfold asHookT at e
    unfold asHook
    split at e
    · simp only [Option.some.injEq, Prod.mk.injEq] at e
      obtain ⟨rfl, rfl⟩ := e
      exact ⟨ho, rfl⟩
    · rename_i u a q b off
      try simp only
      rw [Hp.get_toL ho]
      split at e
      · rename_i cs h1 h2
        simp only [h1, h2]
        split at e
        · rename_i hc
          rw [if_pos hc]
          split at e
          · rename_i hu
            rw [if_pos hu]
            simp only [Option.some.injEq, Prod.mk.injEq] at e
            obtain ⟨rfl, rfl⟩ := e
            exact ⟨Hp.set_ok ho _ _, by rw [Hp.set_toL ho]⟩
          · rename_i hu
            rw [if_neg hu]
            split at e
            · rename_i hu2
              rw [if_pos hu2]
              simp only [Option.some.injEq, Prod.mk.injEq] at e
              obtain ⟨rfl, rfl⟩ := e
              exact ⟨ho, rfl⟩
            · cases e
        · cases e
      · cases e
    · cases e
  · simp only [hf, if_false, Bool.false_eq_true]
    cases l.find? fun x => x.1 == f with
    | none => trivial
    | some x =>
      intro lo args h r h' ho e
      cases args with
      | cons a xs => cases e
      | nil =>
        simp only [Option.some.injEq, Prod.mk.injEq] at e
        obtain ⟨rfl, rfl⟩ := e
        exact ⟨ho, rfl⟩

end Go.Proofs.YtomlcdalhihnaaaDoor

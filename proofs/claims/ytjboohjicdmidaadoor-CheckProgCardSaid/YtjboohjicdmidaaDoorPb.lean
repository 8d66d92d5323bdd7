/- What is built of blocks, sections of rising locks, conditions of their locks, may be: the plain law. -/
import Derived.Test.YtjboohjicdmidaaDoorPj
namespace Go.Proofs.YtjboohjicdmidaaDoor
open Go.RowKit Go.Am Go.Sy
set_option linter.unusedVariables false
set_option linter.unusedSimpArgs false

/-! ### Blocks, by their ops alone; the last one that is open is the first one here -/
def astep (op : Int) (σ : List (Int × Bool)) : Option (List (Int × Bool)) :=
  if op = 18 ∨ op = 21 ∨ op = 13 then some ((op, false) :: σ)
  else if opener op = 0 then some σ
  else match σ with
    | [] => none
    | (o, f) :: τ => if o = opener op then (if op = 19 then (if f = true then none else some ((o, true) :: τ)) else some τ) else none
def arun : List Instr → List (Int × Bool) → Option (List (Int × Bool))
  | [], σ => some σ
  | x :: p, σ => match astep x.op σ with
    | none => none
    | some τ => arun p τ
def wrun (c : Config) : List Instr → WS → Option WS
  | [], w => some w
  | x :: p, w => if wcode c x w = 0 then wrun c p (wnext x w) else none
theorem arun_append : ∀ {p q : List Instr} {σ τ : List (Int × Bool)}, arun p σ = some τ → arun (p ++ q) σ = arun q τ
  | [], q, σ, τ, h => by cases h; rfl
  | x :: p, q, σ, τ, h => by
    show (match astep x.op σ with | none => none | some τ => arun (p ++ q) τ) = _
    unfold arun at h
    cases hs : astep x.op σ with
    | none => rw [hs] at h; cases h
    | some ρ => rw [hs] at h; exact arun_append h
theorem wrun_append {c : Config} : ∀ {p q : List Instr} {w v : WS}, wrun c p w = some v → wrun c (p ++ q) w = wrun c q v
  | [], q, w, v, h => by cases h; rfl
  | x :: p, q, w, v, h => by
    show (if wcode c x w = 0 then wrun c (p ++ q) (wnext x w) else none) = _
    unfold wrun at h
    by_cases hs : wcode c x w = 0
    · rw [if_pos hs] at h ⊢; exact wrun_append h
    · rw [if_neg hs] at h; cases h
/-- May be wherever no section is open. -/
structure GoodP (c : Config) (p : List Instr) : Prop where
  may : p.all mayB = true
  bal : ∀ σ, arun p σ = some σ
  walk : ∀ tp lp, (wrun c p ⟨[], tp, lp⟩).map (·.o) = some []
theorem GoodP.append {c : Config} {p q : List Instr} (h : GoodP c p) (k : GoodP c q) : GoodP c (p ++ q) where
  may := by rw [List.all_append, h.may, k.may]; rfl
  bal := fun σ => by rw [arun_append (h.bal σ), k.bal]
  walk := fun tp lp => by
    obtain ⟨w, h1, h2⟩ := Option.map_eq_some_iff.1 (h.walk tp lp)
    obtain ⟨o, tp', lp'⟩ := w
    have h2 : o = [] := h2
    subst h2
    rw [wrun_append h1]
    exact k.walk tp' lp'

/-! ### What the three walks say of it -/
end Go.Proofs.YtjboohjicdmidaaDoor

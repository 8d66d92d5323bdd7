/- What check tells of one program is one of ten codes; a row of those that are few enough is short. -/
import Derived.Test.YtjboohjicdmidaaDoorPc
namespace Go.Proofs.YtjboohjicdmidaaDoor
open Go.RowKit Go.Am Go.Sy
set_option linter.unusedVariables false
set_option linter.unusedSimpArgs false

theorem few_len {rows : List (List Int)} (h : fewB rows 12 = true) : ∀ i : Nat, i < 3 → i < rows.length → (at5 rows i).length ≤ 12 := by
  have step : ∀ (r i : Nat), fewGo rows 12 (r + 1) i = true → i < rows.length → (at5 rows i).length ≤ 12 ∧ fewGo rows 12 r (i + 1) = true := by
    intro r i h hi
    rw [few_step (show (i : Int) < rows.length by omega)] at h
    split at h
    · cases h
    · rename_i g
      exact ⟨by omega, h⟩
  intro i h3 hi
  have s0 := fun hi => step 4 0 h hi
  have : i = 0 ∨ i = 1 ∨ i = 2 := by omega
  rcases this with rfl | rfl | rfl
  · exact (s0 hi).1
  · exact (step 3 1 (s0 (by omega)).2 hi).1
  · exact (step 2 2 (step 3 1 (s0 (by omega)).2 (by omega)).2 hi).1
theorem waitF_is (cs : List Int) (o : List Instr) (x : Instr) : 0 ≤ waitF cs o x ∧ waitF cs o x ≤ 10 := by
  unfold waitF
  repeat' split
  all_goals decide
theorem wakeF_is (cs : List Int) (o : List Instr) (x : Instr) : 0 ≤ wakeF cs o x ∧ wakeF cs o x ≤ 10 := by
  unfold wakeF
  repeat' split
  all_goals decide
theorem wcode_is (c : Config) (x : Instr) (w : WS) : 0 ≤ wcode c x w ∧ wcode c x w ≤ 10 := by
  have h1 := waitF_is c.conds w.o x
  have h2 := wakeF_is c.conds w.o x
  unfold wcode
  repeat' split
  all_goals first
    | exact h1
    | exact h2
    | decide
def W3Ok (t : Nat) (w : W3) : Prop := (w.1 = 0 → w = (0, 0, 0)) ∧ (w.1 ≠ 0 → w.2.1 = t ∧ 1 ≤ w.1 ∧ w.1 ≤ 10)
theorem w3_of {t : Nat} {k a : Int} (h0 : 1 ≤ k) (h1 : k ≤ 10) : W3Ok t (k, (t : Int), a) := ⟨fun h => by have h : k = 0 := h; omega, fun _ => ⟨rfl, h0, h1⟩⟩
theorem wgo_w3 (c : Config) (t : Nat) (p : List Instr) : ∀ (r i : Nat) (w : WS), W3Ok t (wgo c t p r i w)
  | 0, i, w => ⟨fun _ => rfl, fun h => (h rfl).elim⟩
  | r + 1, i, w => by
    rw [wgo]
    split
    · exact wgo_w3 c t p r (i + 1) _
    · rename_i h
      have := wcode_is c (at2 p i) w
      exact w3_of (by omega) (by omega)
theorem pwC_w3 (c : Config) (t : Nat) : W3Ok t (pwC c t) := by
  unfold pwC progP
  split
  · exact w3_of (by decide) (by decide)
  split
  · exact w3_of (by decide) (by decide)
  split
  · exact w3_of (by decide) (by decide)
  · exact wgo_w3 _ _ _ _ _ _
theorem pwCOk : PwOk pwC := ⟨fun c k => (pwC_w3 c k).1, fun c k => (pwC_w3 c k).2⟩
end Go.Proofs.YtjboohjicdmidaaDoor

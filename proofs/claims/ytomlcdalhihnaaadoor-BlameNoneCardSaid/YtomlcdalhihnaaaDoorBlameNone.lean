/- Proved: the law BlameNone answers true at every input (any thread, any place), and leaves its arguments as they were. No condition beside the laid variables that the card ties to the program's text. -/
import Derived.Test.YtomlcdalhihnaaaDoorHook
import Derived.Test.YtomlcdalhihnaaaDoorTop
import Derived.Test.YtomlcdalhihnaaaDoorCards
import Derived.Test.YtomlcdalhihnaaaDoorTie
namespace Go.Proofs.YtomlcdalhihnaaaDoor.blameNone
open Go.ChangeShapes Go.WideShapes Go.ChangeAt Go.RowKit Go.Am
set_option linter.unusedVariables false

def pol (f : FuncId) : Pol := if f == 18 || f == 40 then .pure else .keep
def toldL : List (FuncId × AVal) := []
theorem told : Told toldL := by
  intro x hx
  cases hx
noncomputable def S : AStat := St pol toldL
theorem sOk : StatOk S := stOk pol told
theorem run (t p : Int) : ∃ n H', runA S n 0 8 [.int .i64 t, .int .i64 p] [] = some (.bool true, H') :=
  ⟨5000, runF_ok (hookSim pol toldL) 5000 (by kernel_rfl)⟩

set_option maxRecDepth 100000 in
theorem lifted (os : Os) (started : os.Started) (H : Type) (enc : TypeId × Value → H) :
    ReturnsInHanded {} Tryd.checked os 8 .any (fun w args => (Rows.blameNoneSpec.pre enc Tryd.prog Tryd.f8 [] false w args ∧ laidMetH Tryd.prog laidL w) ∧ sizedMet enc Tryd.prog Tryd.f8 (OpenSpec.ofChange Rows.blameNoneSpec) false w args)
      (Rows.blameNoneSpec.post enc Tryd.prog Tryd.f8 false true false false) := by
  refine returnsInHanded_of_change_and (C := Tryd.checked) (X := fun w _ => laidMetH Tryd.prog laidL w) (fun _ _ _ hh h => h.of_heap hh) own started (by kernel_rfl) Tryd.func8
    (ChangeSpec.witness_at (enc := enc) (C := Tryd.checked) (os := os) (X := fun w _ => laidMetH Tryd.prog laidL w) false (laidWorld os) #[.int .i64 0, .int .i64 0] 8 rfl (by kernel_rfl) (by kernel_rfl) (by kernel_rfl) (by kernel_rfl) (by kernel_rfl) (laidWorld_met os _)) ?_
  intro W base args ds gs before hval0 hW _ _ hL _
  have hval : ∀ (j : Nat) t v, Tryd.f8.params[j]? = some t → args[j]? = some v → Value.okWide Tryd.prog W .any base t v := hval0
  have hW' := hW
  obtain ⟨p, q, hA0, hV, rfl, hfz, hnd⟩ := hW
  have hA : DataW.TrodAll enc Tryd.prog W 0 (fun _ => true) true Tryd.f8.params.toList args.toList ds p := hA0
  rw [Tryd.params8] at hA hval
  obtain ⟨v0, vs0, d0, ds0, p0, q0, hargs, rfl, rfl, h0, r0⟩ := trodAll_cons hA
  obtain ⟨v1, vs1, d1, ds1, p1, q1, rfl, rfl, rfl, h1, r1⟩ := trodAll_cons r0
  obtain ⟨rfl, rfl, rfl⟩ := trodAll_nil r1
  obtain rfl : args = #[v0, v1] := by cases args; simp_all
  obtain ⟨rfl, rfl⟩ := trodVars_none hV
  obtain ⟨a0, rfl, rfl, rfl, w0⟩ := open_int Tryd.underlying3 (hval 0 3 v0 rfl rfl) h0
  obtain ⟨a1, rfl, rfl, rfl, w1⟩ := open_int Tryd.underlying3 (hval 1 3 v1 rfl rfl) h1
  clear hA0 hval0
  obtain ⟨n, H', hN⟩ := run a0 a1
  obtain ⟨θ, hG⟩ := globOk pol toldL hL
  exact law_contract sOk rfl laidOut hW' (by kernel_rfl) rfl rfl Tryd.underlying4 rfl hG (av := [.int .i64 a0, .int .i64 a1])
    ⟨_, _, rfl, rfl, _, _, rfl, rfl, rfl⟩ hN

theorem over : Rows.blameNoneRow.holds Tryd.pinned (OpenSpec.ofChange Rows.blameNoneSpec) :=
  OpenClaim.holds_of_wide 8 Tryd.f8 rfl rfl rfl rfl rfl rfl rfl ⟨rfl, rfl, rfl, rfl, rfl⟩ rfl rfl rfl rfl rfl (by kernel_rfl) Tryd.func8 (by kernel_rfl)
    (of_decide_eq_true (by kernel_rfl)) (by unfold Func.isWrapper; first | (rw [if_pos (by decide +kernel)]; kernel_rfl) | (rw [if_neg (by decide +kernel)]; exact ⟨rfl, rfl⟩))
    (fun os started H enc _ => lifted os started H enc)

/-- ████ THE STATEMENT ████ -/
theorem proved : Rows.BlameNoneCardSaid :=
  Claim7.holds_tied_plain_at .later [] _ true _ true
    over (fun _ h => by cases h) (by kernel_rfl) (fun _ h => by cases h) blameNone_row_tie rfl ⟨rfl, rfl⟩ (by kernel_rfl) rfl
    (fun f fn hf hfn => by
      obtain rfl : f = 8 := Option.some.inj ((show Tryd.prog.funcNamed "syncope/syncopelaw1.BlameNone" = some 8 by kernel_rfl).symm.trans hf) |>.symm
      obtain rfl : fn = Tryd.f8 := (Option.some.inj (Tryd.func8.symm.trans hfn)).symm
      exact ⟨by kernel_rfl, fun j t ht => by
        rw [Tryd.params8] at ht
        have hall : ((Tryd.f8.params).toList.all fun t => Tryd.prog.wantsStandIn t == false) = true := by kernel_rfl
        rw [Tryd.params8] at hall
        have := List.all_eq_true.1 hall t (List.mem_of_getElem? (i := j) (by rw [Array.getElem?_toList]; exact ht))
        exact beq_iff_eq.1 this⟩)
    (by kernel_rfl)
#print axioms proved
end Go.Proofs.YtomlcdalhihnaaaDoor.blameNone

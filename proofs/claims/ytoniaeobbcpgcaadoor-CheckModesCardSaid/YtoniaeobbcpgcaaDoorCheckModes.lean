/- Proved: the law CheckModes answers true at every input (which instruction within a lock that is held to read, which lock), and leaves its arguments as they were. No condition beside the laid variables that the card ties to the program's text. -/
import Derived.Test.YtoniaeobbcpgcaaDoorModesTail0
import Derived.Test.YtoniaeobbcpgcaaDoorModesTail1
import Derived.Test.YtoniaeobbcpgcaaDoorModesTail2
import Derived.Test.YtoniaeobbcpgcaaDoorTop
import Derived.Test.YtoniaeobbcpgcaaDoorCards
import Derived.Test.YtoniaeobbcpgcaaDoorTie
namespace Go.Proofs.YtoniaeobbcpgcaaDoor.checkModes
open checkOrder (pol toldL told S sOk pk pk3)
open Go.ChangeShapes Go.WideShapes Go.ChangeAt Go.RowKit Go.Am
set_option linter.unusedVariables false

theorem run (w l : Int) : ∃ n H', runA S n 0 6 [.int .i64 w, .int .i64 l] [] = some (.bool true, H') := by
  have fin : ∀ p q : Int, pk l = p → pk6 w = q → tail w l p q = some (.bool true) → ∃ n H', runA S n 0 6 [.int .i64 w, .int .i64 l] [] = some (.bool true, H') := by
    intro p q el ew ht
    exact run_cut2 (hookSim pol toldL) Tryd.func6 rfl rfl rfl 5000 3 3 5000 [(5, .int .i64 (pk l)), (24, .int .i64 (pk6 w))] [(5, .int .i64 p), (24, .int .i64 q)] [] [] (by rw [el, ew]) rfl (look w l) ht
  rcases pk3 l with el | el | el <;> rcases pk6_is w with ew | ew | ew | ew | ew | ew
  · exact fin 0 0 el ew (end00 w l)
  · exact fin 0 1 el ew (end01 w l)
  · exact fin 0 2 el ew (end02 w l)
  · exact fin 0 3 el ew (end03 w l)
  · exact fin 0 4 el ew (end04 w l)
  · exact fin 0 5 el ew (end05 w l)
  · exact fin 1 0 el ew (end10 w l)
  · exact fin 1 1 el ew (end11 w l)
  · exact fin 1 2 el ew (end12 w l)
  · exact fin 1 3 el ew (end13 w l)
  · exact fin 1 4 el ew (end14 w l)
  · exact fin 1 5 el ew (end15 w l)
  · exact fin 2 0 el ew (end20 w l)
  · exact fin 2 1 el ew (end21 w l)
  · exact fin 2 2 el ew (end22 w l)
  · exact fin 2 3 el ew (end23 w l)
  · exact fin 2 4 el ew (end24 w l)
  · exact fin 2 5 el ew (end25 w l)

set_option maxRecDepth 100000 in
theorem lifted (os : Os) (started : os.Started) (H : Type) (enc : TypeId × Value → H) :
    ReturnsInHanded {} Tryd.checked os 6 .any (fun w args => (Rows.checkModesSpec.pre enc Tryd.prog Tryd.f6 [] false w args ∧ laidMetH Tryd.prog laidL w) ∧ sizedMet enc Tryd.prog Tryd.f6 (OpenSpec.ofChange Rows.checkModesSpec) false w args)
      (Rows.checkModesSpec.post enc Tryd.prog Tryd.f6 false true false false) := by
  refine returnsInHanded_of_change_and (C := Tryd.checked) (X := fun w _ => laidMetH Tryd.prog laidL w) (fun _ _ _ hh h => h.of_heap hh) own started (by kernel_rfl) Tryd.func6
    (ChangeSpec.witness_at (enc := enc) (C := Tryd.checked) (os := os) (X := fun w _ => laidMetH Tryd.prog laidL w) false (laidWorld os) #[.int .i64 0, .int .i64 0] 8 rfl (by kernel_rfl) (by kernel_rfl) (by kernel_rfl) (by kernel_rfl) (by kernel_rfl) (laidWorld_met os _)) ?_
  intro W base args ds gs before hval0 hW _ _ hL _
  have hval : ∀ (j : Nat) t v, Tryd.f6.params[j]? = some t → args[j]? = some v → Value.okWide Tryd.prog W .any base t v := hval0
  have hW' := hW
  obtain ⟨p, q, hA0, hV, rfl, hfz, hnd⟩ := hW
  have hA : DataW.TrodAll enc Tryd.prog W 0 (fun _ => true) true Tryd.f6.params.toList args.toList ds p := hA0
  rw [Tryd.params6] at hA hval
  obtain ⟨v0, vs0, d0, ds0, p0, q0, hargs, rfl, rfl, h0, r0⟩ := trodAll_cons hA
  obtain ⟨v1, vs1, d1, ds1, p1, q1, rfl, rfl, rfl, h1, r1⟩ := trodAll_cons r0
  obtain ⟨rfl, rfl, rfl⟩ := trodAll_nil r1
  obtain rfl : args = #[v0, v1] := by cases args; simp_all
  obtain ⟨rfl, rfl⟩ := trodVars_none hV
  obtain ⟨a0, rfl, rfl, rfl, w0⟩ := open_int Tryd.underlying3 (hval 0 3 v0 rfl rfl) h0
  obtain ⟨a1, rfl, rfl, rfl, w1⟩ := open_int Tryd.underlying3 (hval 1 3 v1 rfl rfl) h1
  clear hA0 hval0
  obtain ⟨n, H', hN⟩ := run a0 a1
  obtain ⟨θ, hG⟩ := globOk pol toldL hL
  exact law_contract sOk rfl laidOut hW' (by kernel_rfl) rfl rfl Tryd.underlying4 rfl hG (av := [.int .i64 a0, .int .i64 a1])
    ⟨_, _, rfl, rfl, _, _, rfl, rfl, rfl⟩ hN

theorem over : Rows.checkModesRow.holds Tryd.pinned (OpenSpec.ofChange Rows.checkModesSpec) :=
  OpenClaim.holds_of_wide 6 Tryd.f6 rfl rfl rfl rfl rfl rfl rfl ⟨rfl, rfl, rfl, rfl, rfl⟩ rfl rfl rfl rfl rfl (by kernel_rfl) Tryd.func6 (by kernel_rfl)
    (of_decide_eq_true (by kernel_rfl)) (by unfold Func.isWrapper; first | (rw [if_pos (by decide +kernel)]; kernel_rfl) | (rw [if_neg (by decide +kernel)]; exact ⟨rfl, rfl⟩))
    (fun os started H enc _ => lifted os started H enc)

/-- ████ THE STATEMENT ████ -/
theorem proved : Rows.CheckModesCardSaid :=
  Claim7.holds_tied_plain_at .later [] _ true _ true
    over (fun _ h => by cases h) (by kernel_rfl) (fun _ h => by cases h) checkModes_row_tie rfl ⟨rfl, rfl⟩ (by kernel_rfl) rfl
    (fun f fn hf hfn => by
      obtain rfl : f = 6 := Option.some.inj ((show Tryd.prog.funcNamed "syncope/syncopelaw6.CheckModes" = some 6 by kernel_rfl).symm.trans hf) |>.symm
      obtain rfl : fn = Tryd.f6 := (Option.some.inj (Tryd.func6.symm.trans hfn)).symm
      exact ⟨by kernel_rfl, fun j t ht => by
        rw [Tryd.params6] at ht
        have h3 : t = 3 := by
          rcases j with _ | _ | j
          · simpa using ht.symm
          · simpa using ht.symm
          · simp at ht
        subst h3
        exact (show Tryd.prog.wantsStandIn 3 = false by kernel_rfl)⟩)
    (by kernel_rfl)
#print axioms proved
end Go.Proofs.YtoniaeobbcpgcaaDoor.checkModes

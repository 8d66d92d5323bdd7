/- Proved: the law TextWhere answers true at every input, and leaves its arguments as they were. No condition beside the laid variables that the card ties to the program's text. -/
import Derived.Test.YtbbbpnaghipfmaaDoorWv
import Derived.Test.YtbbbpnaghipfmaaDoorTop
import Derived.Test.YtbbbpnaghipfmaaDoorCards
import Derived.Test.YtbbbpnaghipfmaaDoorTie
namespace Go.Proofs.YtbbbpnaghipfmaaDoor.textWhere
open Go.ChangeShapes Go.WideShapes Go.ChangeAt Go.RowKit Go.Am Go.Sy
set_option linter.unusedVariables false

theorem run (a0 a1 a2 : AVal) (h0 : (Ty.int .i64).Is [a0]) (h1 : (Ty.int .i64).Is [a1]) (h2 : (Ty.int .i64).Is [a2]) :
    ∃ n H', runA S n 0 5 [a0, a1, a2] [] = some (.bool true, H') := by
  obtain ⟨x, hx, _⟩ := h0
  obtain ⟨y, hy, _⟩ := h1
  obtain ⟨z, hz, _⟩ := h2
  simp only [List.cons.injEq, and_true] at hx hy hz
  subst hx hy hz
  exact where_run x y z (.cons (.i _ _) (.cons (.i _ _) (.cons (.i _ _) .nil)))

set_option maxRecDepth 100000 in
theorem lifted (os : Os) (started : os.Started) (H : Type) (enc : TypeId × Value → H) :
    ReturnsInHanded {} Tryd.checked os 5 .any (fun w args => (Rows.textWhereSpec.pre enc Tryd.prog Tryd.f5 [] false w args ∧ laidMetH Tryd.prog laidL w) ∧ sizedMet enc Tryd.prog Tryd.f5 (OpenSpec.ofChange Rows.textWhereSpec) false w args)
      (Rows.textWhereSpec.post enc Tryd.prog Tryd.f5 false true false false) := by
  refine returnsInHanded_of_change_and (C := Tryd.checked) (X := fun w _ => laidMetH Tryd.prog laidL w) (fun _ _ _ hh h => h.of_heap hh) own started (by kernel_rfl) Tryd.func5
    (ChangeSpec.witness_at (enc := enc) (C := Tryd.checked) (os := os) (X := fun w _ => laidMetH Tryd.prog laidL w) false (laidWorld os) #[.int .i64 0, .int .i64 0, .int .i64 0] 8 rfl (by kernel_rfl) (by kernel_rfl) (by kernel_rfl) (by kernel_rfl) (by kernel_rfl) (laidWorld_met os _)) ?_
  intro W base args ds gs before hval0 hW _ _ hL _
  have hval : ∀ (j : Nat) t v, Tryd.f5.params[j]? = some t → args[j]? = some v → Value.okWide Tryd.prog W .any base t v := hval0
  have hW' := hW
  obtain ⟨p, q, hA0, hV, rfl, hfz, hnd⟩ := hW
  have hA : DataW.TrodAll enc Tryd.prog W 0 (fun _ => true) true Tryd.f5.params.toList args.toList ds p := hA0
  rw [Tryd.params5] at hA hval
  obtain ⟨v0, vs0, d0, ds0, p0, q0, hargs, rfl, rfl, h0, r0⟩ := trodAll_cons hA
  obtain ⟨v1, vs1, d1, ds1, p1, q1, rfl, rfl, rfl, h1, r1⟩ := trodAll_cons r0
  obtain ⟨v2, vs2, d2, ds2, p2, q2, rfl, rfl, rfl, h2, r2⟩ := trodAll_cons r1
  obtain ⟨rfl, rfl, rfl⟩ := trodAll_nil r2
  obtain rfl : args = #[v0, v1, v2] := by cases args; simp_all
  obtain ⟨rfl, rfl⟩ := trodVars_none hV
  obtain ⟨θ, hG⟩ := globOk pol toldL hL
  obtain ⟨a0, e0, k0⟩ := arg_one (θ := θ) (ty := .int .i64) nofun (by kernel_rfl) (hval 0 3 v0 rfl rfl) h0
  obtain ⟨a1, e1, k1⟩ := arg_one (θ := θ) (ty := .int .i64) nofun (by kernel_rfl) (hval 1 3 v1 rfl rfl) h1
  obtain ⟨a2, e2, k2⟩ := arg_one (θ := θ) (ty := .int .i64) nofun (by kernel_rfl) (hval 2 3 v2 rfl rfl) h2
  clear hA0 hval0
  obtain ⟨n, H', hN⟩ := run a0 a1 a2 k0 k1 k2
  exact law_contract sOk rfl laidOut hW' (by kernel_rfl) rfl rfl Tryd.underlying4 rfl hG (av := [a0, a1, a2])
    ⟨_, _, rfl, e0, _, _, rfl, e1, _, _, rfl, e2, rfl⟩ hN

theorem over : Rows.textWhereRow.holds Tryd.pinned (OpenSpec.ofChange Rows.textWhereSpec) :=
  OpenClaim.holds_of_wide 5 Tryd.f5 rfl rfl rfl rfl rfl rfl rfl ⟨rfl, rfl, rfl, rfl, rfl⟩ rfl rfl rfl rfl rfl (by kernel_rfl) Tryd.func5 (by kernel_rfl)
    (of_decide_eq_true (by kernel_rfl)) (by unfold Func.isWrapper; first | (rw [if_pos (by decide +kernel)]; kernel_rfl) | (rw [if_neg (by decide +kernel)]; exact ⟨rfl, rfl⟩))
    (fun os started H enc _ => lifted os started H enc)

/-- ████ THE STATEMENT ████ -/
theorem proved : Rows.TextWhereCardSaid :=
  Claim7.holds_tied_plain_at .later [] _ true _ true
    over (fun _ h => by cases h) (by kernel_rfl) (fun _ h => by cases h) textWhere_row_tie rfl ⟨rfl, rfl⟩ (by kernel_rfl) rfl
    (fun f fn hf hfn => by
      obtain rfl : f = 5 := Option.some.inj ((show Tryd.prog.funcNamed "syncope/syncopelaw5.TextWhere" = some 5 by kernel_rfl).symm.trans hf) |>.symm
      obtain rfl : fn = Tryd.f5 := (Option.some.inj (Tryd.func5.symm.trans hfn)).symm
      exact ⟨by kernel_rfl, fun j t ht => by
        rw [Tryd.params5] at ht
        have hall : ((Tryd.f5.params).toList.all fun t => Tryd.prog.wantsStandIn t == false) = true := by kernel_rfl
        rw [Tryd.params5] at hall
        have := List.all_eq_true.1 hall t (List.mem_of_getElem? (i := j) (by rw [Array.getElem?_toList]; exact ht))
        exact beq_iff_eq.1 this⟩)
    (by kernel_rfl)
#print axioms proved
end Go.Proofs.YtbbbpnaghipfmaaDoor.textWhere

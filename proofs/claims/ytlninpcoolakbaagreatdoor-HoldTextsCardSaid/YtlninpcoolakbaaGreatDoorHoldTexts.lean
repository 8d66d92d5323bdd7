/- Proved: the law HoldTexts answers true at every input (any outcome), and leaves its argument as it was. No condition beside the laid variables that the card ties to the program's text. -/
import Derived.Test.YtlninpcoolakbaaGreatDoorHt
import Derived.Test.YtlninpcoolakbaaGreatDoorAl
import Derived.Test.YtlninpcoolakbaaGreatDoorTop
import Derived.Test.YtlninpcoolakbaaGreatDoorCards
import Derived.Test.YtlninpcoolakbaaGreatDoorTie
namespace Go.Proofs.YtlninpcoolakbaaGreatDoor.holdTexts
open Go.ChangeShapes Go.WideShapes Go.ChangeAt Go.RowKit Go.Am Go.Sy
set_option linter.unusedVariables false
theorem int_row : TyRow cod 0 (.int .i64) fun n => okB n = true := by
  intro cs h
  obtain ⟨a, rfl, h⟩ := h
  exact ⟨a, .cons (.i _ _) .nil, okB_of h.1 h.2⟩
theorem list_row : TyRow cod 1 (.slice (.int .i64)) fun (l : List Int) => ∀ n ∈ l, okB n = true := by
  intro cs h
  have h1 : ∃ a, cs = [a] := by
    simp only [Ty.Is] at h
    rcases h with rfl | ⟨rows, ex, rfl, _, _⟩
    · exact ⟨_, rfl⟩
    · exact ⟨_, rfl⟩
  obtain ⟨a, rfl⟩ := h1
  obtain ⟨l, e, _, hl⟩ := slice_arg (C := cod) codOk (n := 0) int_row rfl h
  exact ⟨l, .cons e .nil, hl⟩
theorem ints_arg {a : AVal} (h : (Ty.slice (.int .i64)).Is [a]) : ∃ l : List Int, Er (C := cod) (away []) (.tl (T := T) 0 l) a ∧ ∀ n ∈ l, okB n = true := by
  obtain ⟨l, e, _, hl⟩ := slice_arg (C := cod) codOk (n := 0) int_row rfl h
  exact ⟨l, e, hl⟩
theorem lists_arg {a : AVal} (h : (Ty.slice (.slice (.int .i64))).Is [a]) : ∃ l : List (List Int), Er (C := cod) (away []) (.tl (T := T) 1 l) a ∧ ∀ x ∈ l, ∀ n ∈ x, okB n = true := by
  obtain ⟨l, e, _, hl⟩ := slice_arg (C := cod) codOk (n := 1) list_row rfl h
  exact ⟨l, e, hl⟩
theorem one_of {e : Ty} {cs : List AVal} (h : (Ty.slice e).Is cs) : ∃ a, cs = [a] := by
  simp only [Ty.Is] at h
  rcases h with rfl | ⟨rows, ex, rfl, _, _⟩
  · exact ⟨_, rfl⟩
  · exact ⟨_, rfl⟩
theorem run (a0 : List AVal) (h0 : IsL [.slice (.slice (.int .i64)), .slice (.int .i64), .slice (.int .i64), .slice (.int .i64), .slice (.slice (.int .i64))] a0) :
    ∃ n H', runA S n 0 3 [.agg a0] [] = some (.bool true, H') := by
  obtain ⟨c0, _, rfl, h0, c1, _, rfl, h1, c2, _, rfl, h2, c3, _, rfl, h3, c4, _, rfl, h4, rfl⟩ := h0
  obtain ⟨b0, rfl⟩ := one_of h0
  obtain ⟨b1, rfl⟩ := one_of h1
  obtain ⟨b2, rfl⟩ := one_of h2
  obtain ⟨b3, rfl⟩ := one_of h3
  obtain ⟨b4, rfl⟩ := one_of h4
  obtain ⟨l0, e0, k0⟩ := lists_arg h0
  obtain ⟨l1, e1, k1⟩ := ints_arg h1
  obtain ⟨l2, e2, k2⟩ := ints_arg h2
  obtain ⟨l3, e3, k3⟩ := ints_arg h3
  obtain ⟨l4, e4, k4⟩ := lists_arg h4
  have hA : Ers (C := cod) (away []) (enc4 ⟨l0, l1, l2, l3, l4⟩) [b0, b1, b2, b3, b4] := .cons e0 (.cons e1 (.cons e2 (.cons e3 (.cons e4 .nil))))
  exact texts_run ⟨l0, l1, l2, l3, l4⟩ ⟨k0, k1, k2, k3, k4⟩ (.cons (.agg hA.1 hA.2) .nil)
theorem sOk : StatOk S := stOk pol told
set_option maxRecDepth 100000 in
theorem lifted (os : Os) (started : os.Started) (H : Type) (enc : TypeId × Value → H) :
    ReturnsInHanded {} Tryz.checked os 3 .any (fun w args => (Rows.holdTextsSpec.pre enc Tryz.prog Tryz.f3 [] false w args ∧ laidMetH Tryz.prog laidL w) ∧ sizedMet enc Tryz.prog Tryz.f3 (OpenSpec.ofChange Rows.holdTextsSpec) false w args)
      (Rows.holdTextsSpec.post enc Tryz.prog Tryz.f3 false true false false) := by
  refine returnsInHanded_of_change_and (C := Tryz.checked) (X := fun w _ => laidMetH Tryz.prog laidL w) (fun _ _ _ hh h => h.of_heap hh) own started (by kernel_rfl) Tryz.func3
    (ChangeSpec.witness_at (enc := enc) (C := Tryz.checked) (os := os) (X := fun w _ => laidMetH Tryz.prog laidL w) false (laidWorld os) #[.agg #[.slice none 0 0, .slice none 0 0, .slice none 0 0, .slice none 0 0, .slice none 0 0]] 8 rfl (by kernel_rfl) (by kernel_rfl) (by kernel_rfl) (by kernel_rfl) (by kernel_rfl) (laidWorld_met os _)) ?_
  intro W base args ds gs before hval0 hW _ _ hL _
  have hval : ∀ (j : Nat) t v, Tryz.f3.params[j]? = some t → args[j]? = some v → Value.okWide Tryz.prog W .any base t v := hval0
  have hW' := hW
  obtain ⟨p, q, hA0, hV, rfl, hfz, hnd⟩ := hW
  have hA : DataW.TrodAll enc Tryz.prog W 0 (fun _ => true) true Tryz.f3.params.toList args.toList ds p := hA0
  rw [Tryz.params3] at hA hval
  obtain ⟨v0, vs0, d0, ds0, p0, q0, hargs, rfl, rfl, h0, r0⟩ := trodAll_cons hA
  obtain ⟨rfl, rfl, rfl⟩ := trodAll_nil r0
  obtain rfl : args = #[v0] := by cases args; simp_all
  obtain ⟨rfl, rfl⟩ := trodVars_none hV
  obtain ⟨θ, hG⟩ := globOk pol toldL hL
  obtain ⟨a0, e0, k0⟩ := arg_row (θ := θ) (fs := [.slice (.slice (.int .i64)), .slice (.int .i64), .slice (.int .i64), .slice (.int .i64), .slice (.slice (.int .i64))]) (by kernel_rfl) (hval 0 27 v0 rfl rfl) h0
  clear hA0 hval0
  obtain ⟨n, H', hN⟩ := run a0 k0
  exact law_contract sOk rfl laidOut hW' (by kernel_rfl) rfl rfl Tryz.underlying4 rfl hG (av := [.agg a0])
    ⟨_, _, rfl, e0, rfl⟩ hN
theorem over : Rows.holdTextsRow.holds Tryz.pinned (OpenSpec.ofChange Rows.holdTextsSpec) :=
  OpenClaim.holds_of_wide 3 Tryz.f3 rfl rfl rfl rfl rfl rfl rfl ⟨rfl, rfl, rfl, rfl, rfl⟩ rfl rfl rfl rfl rfl (by kernel_rfl) Tryz.func3 (by kernel_rfl)
    (of_decide_eq_true (by kernel_rfl)) (by unfold Func.isWrapper; first | (rw [if_pos (by decide +kernel)]; kernel_rfl) | (rw [if_neg (by decide +kernel)]; exact ⟨rfl, rfl⟩))
    (fun os started H enc _ => lifted os started H enc)
theorem proved : Rows.HoldTextsCardSaid :=
  Claim7.holds_tied_plain_at .later [] _ true _ true
    over (fun _ h => by cases h) (by kernel_rfl) (fun _ h => by cases h) holdTexts_row_tie rfl ⟨rfl, rfl⟩ (by kernel_rfl) rfl
    (fun f fn hf hfn => by
      obtain rfl : f = 3 := Option.some.inj ((show Tryz.prog.funcNamed "syncope/syncopelaw24.HoldTexts" = some 3 by kernel_rfl).symm.trans hf) |>.symm
      obtain rfl : fn = Tryz.f3 := (Option.some.inj (Tryz.func3.symm.trans hfn)).symm
      exact ⟨by kernel_rfl, fun j t ht => by
        rw [Tryz.params3] at ht
        have hall : ((Tryz.f3.params).toList.all fun t => Tryz.prog.wantsStandIn t == false) = true := by kernel_rfl
        rw [Tryz.params3] at hall
        have := List.all_eq_true.1 hall t (List.mem_of_getElem? (i := j) (by rw [Array.getElem?_toList]; exact ht))
        exact beq_iff_eq.1 this⟩)
    (by kernel_rfl)
#print axioms proved
end Go.Proofs.YtlninpcoolakbaaGreatDoor.holdTexts

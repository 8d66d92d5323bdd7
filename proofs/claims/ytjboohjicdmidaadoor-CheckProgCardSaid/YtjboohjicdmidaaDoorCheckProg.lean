/- Proved: the law CheckProg answers true at every input (any numbers, any rows of numbers, any place, any instruction out of numbers, turned or left out), and leaves its arguments as they were. No condition beside the laid variables that the card ties to the program's text. -/
import Derived.Test.YtjboohjicdmidaaDoorXv
import Derived.Test.YtjboohjicdmidaaDoorTop
import Derived.Test.YtjboohjicdmidaaDoorCards
import Derived.Test.YtjboohjicdmidaaDoorTie
namespace Go.Proofs.YtjboohjicdmidaaDoor.checkProg
open Go.ChangeShapes Go.WideShapes Go.ChangeAt Go.RowKit Go.Am Go.Sy
set_option linter.unusedVariables false

theorem int_row : TyRow cod 0 (.int .i64) fun _ => True := by
  intro cs h
  obtain ⟨a, rfl, _⟩ := h
  exact ⟨a, .cons (.i _ _) .nil, trivial⟩
theorem list_row : TyRow cod 5 (.slice (.int .i64)) fun _ => True := by
  intro cs h
  have h1 : ∃ a, cs = [a] := by
    simp only [Ty.Is] at h
    rcases h with rfl | ⟨rows, ex, rfl, _, _⟩
    · exact ⟨_, rfl⟩
    · exact ⟨_, rfl⟩
  obtain ⟨a, rfl⟩ := h1
  obtain ⟨l, e, _, _⟩ := slice_arg (C := cod) codOk (n := 0) int_row rfl h
  exact ⟨l, .cons e .nil, trivial⟩
theorem k_row {cs : List AVal} (h : IsL [.int .i64, .int .i64, .int .i64, .int .i64, .int .i64, .int .i64, .int .i64, .int .i64] cs) : ∃ k : K8, Ers (C := cod) (away []) (enc7 k) cs := by
  obtain ⟨_, _, rfl, ⟨a, rfl, _⟩, _, _, rfl, ⟨b, rfl, _⟩, _, _, rfl, ⟨c, rfl, _⟩, _, _, rfl, ⟨d, rfl, _⟩, _, _, rfl, ⟨e, rfl, _⟩, _, _, rfl, ⟨f, rfl, _⟩, _, _, rfl, ⟨g, rfl, _⟩, _, _, rfl, ⟨i, rfl, _⟩, rfl⟩ := h
  exact ⟨⟨a, b, c, d, e, f, g, i⟩, .cons (.i _ _) (.cons (.i _ _) (.cons (.i _ _) (.cons (.i _ _) (.cons (.i _ _) (.cons (.i _ _) (.cons (.i _ _) (.cons (.i _ _) .nil)))))))⟩
theorem x_row {cs : List AVal} (h : IsL [.row [.int .i64, .int .i64, .int .i64, .int .i64], .int .i64, .bool] cs) : ∃ x : Rw, Ers (C := cod) (away []) (enc6 x) cs := by
  obtain ⟨_, _, rfl, ⟨_, _, rfl, ⟨a, rfl, _⟩, _, _, rfl, ⟨b, rfl, _⟩, _, _, rfl, ⟨c, rfl, _⟩, _, _, rfl, ⟨d, rfl, _⟩, rfl⟩, _, _, rfl, ⟨e, rfl, _⟩, _, _, rfl, ⟨f, rfl⟩, rfl⟩ := h
  exact ⟨⟨a, b, c, d, e, f⟩, .cons (.i _ _) (.cons (.i _ _) (.cons (.i _ _) (.cons (.i _ _) (.cons (.i _ _) (.cons (.b _) .nil)))))⟩
theorem run (a0 : List AVal) (a1 a2 : AVal) (a3 : List AVal) (a4 : AVal) (h0 : IsL [.int .i64, .int .i64, .int .i64, .int .i64, .int .i64, .int .i64, .int .i64, .int .i64] a0) (h1 : (Ty.slice (.slice (.int .i64))).Is [a1]) (h2 : (Ty.int .i64).Is [a2]) (h3 : IsL [.row [.int .i64, .int .i64, .int .i64, .int .i64], .int .i64, .bool] a3) (h4 : Ty.bool.Is [a4]) :
    ∃ n H', runA S n 0 7 [.agg a0, a1, a2, .agg a3, a4] [] = some (.bool true, H') := by
  obtain ⟨k, e0⟩ := k_row h0
  obtain ⟨rows, e1, _, _⟩ := slice_arg (C := cod) codOk (n := 5) list_row rfl h1
  obtain ⟨a, ha, _⟩ := h2
  obtain ⟨x, e3⟩ := x_row h3
  obtain ⟨out, ho⟩ := h4
  simp only [List.cons.injEq, and_true] at ha ho
  subst ha ho
  exact xp_run k rows a x out (.cons (.agg e0.1 e0.2) (.cons e1 (.cons (.i _ _) (.cons (.agg e3.1 e3.2) (.cons (.b _) .nil)))))

set_option maxRecDepth 100000 in
theorem lifted (os : Os) (started : os.Started) (H : Type) (enc : TypeId × Value → H) :
    ReturnsInHanded {} Tryd.checked os 7 .any (fun w args => (Rows.checkProgSpec.pre enc Tryd.prog Tryd.f7 [] false w args ∧ laidMetH Tryd.prog laidL w) ∧ sizedMet enc Tryd.prog Tryd.f7 (OpenSpec.ofChange Rows.checkProgSpec) false w args)
      (Rows.checkProgSpec.post enc Tryd.prog Tryd.f7 false true false false) := by
  refine returnsInHanded_of_change_and (C := Tryd.checked) (X := fun w _ => laidMetH Tryd.prog laidL w) (fun _ _ _ hh h => h.of_heap hh) own started (by kernel_rfl) Tryd.func7
    (ChangeSpec.witness_at (enc := enc) (C := Tryd.checked) (os := os) (X := fun w _ => laidMetH Tryd.prog laidL w) false (laidWorld os) #[.agg #[.int .i64 0, .int .i64 0, .int .i64 0, .int .i64 0, .int .i64 0, .int .i64 0, .int .i64 0, .int .i64 0], .slice none 0 0, .int .i64 0, .agg #[.int .i64 0, .int .i64 0, .int .i64 0, .int .i64 0, .int .i64 0, .bool false], .bool false] 8 rfl (by kernel_rfl) (by kernel_rfl) (by kernel_rfl) (by kernel_rfl) (by kernel_rfl) (laidWorld_met os _)) ?_
  intro W base args ds gs before hval0 hW _ _ hL _
  have hval : ∀ (j : Nat) t v, Tryd.f7.params[j]? = some t → args[j]? = some v → Value.okWide Tryd.prog W .any base t v := hval0
  have hW' := hW
  obtain ⟨p, q, hA0, hV, rfl, hfz, hnd⟩ := hW
  have hA : DataW.TrodAll enc Tryd.prog W 0 (fun _ => true) true Tryd.f7.params.toList args.toList ds p := hA0
  rw [Tryd.params7] at hA hval
  obtain ⟨v0, vs0, d0, ds0, p0, q0, hargs, rfl, rfl, h0, r0⟩ := trodAll_cons hA
  obtain ⟨v1, vs1, d1, ds1, p1, q1, rfl, rfl, rfl, h1, r1⟩ := trodAll_cons r0
  obtain ⟨v2, vs2, d2, ds2, p2, q2, rfl, rfl, rfl, h2, r2⟩ := trodAll_cons r1
  obtain ⟨v3, vs3, d3, ds3, p3, q3, rfl, rfl, rfl, h3, r3⟩ := trodAll_cons r2
  obtain ⟨v4, vs4, d4, ds4, p4, q4, rfl, rfl, rfl, h4, r4⟩ := trodAll_cons r3
  obtain ⟨rfl, rfl, rfl⟩ := trodAll_nil r4
  obtain rfl : args = #[v0, v1, v2, v3, v4] := by cases args; simp_all
  obtain ⟨rfl, rfl⟩ := trodVars_none hV
  obtain ⟨θ, hG⟩ := globOk pol toldL hL
  obtain ⟨a0, e0, k0⟩ := arg_row (θ := θ) (fs := [.int .i64, .int .i64, .int .i64, .int .i64, .int .i64, .int .i64, .int .i64, .int .i64]) (by kernel_rfl) (hval 0 30 v0 rfl rfl) h0
  obtain ⟨a1, e1, k1⟩ := arg_one (θ := θ) (ty := .slice (.slice (.int .i64))) nofun (by kernel_rfl) (hval 1 31 v1 rfl rfl) h1
  obtain ⟨a2, e2, k2⟩ := arg_one (θ := θ) (ty := .int .i64) nofun (by kernel_rfl) (hval 2 3 v2 rfl rfl) h2
  obtain ⟨a3, e3, k3⟩ := arg_row (θ := θ) (fs := [.row [.int .i64, .int .i64, .int .i64, .int .i64], .int .i64, .bool]) (by kernel_rfl) (hval 3 59 v3 rfl rfl) h3
  obtain ⟨a4, e4, k4⟩ := arg_one (θ := θ) (ty := .bool) nofun (by kernel_rfl) (hval 4 4 v4 rfl rfl) h4
  clear hA0 hval0
  obtain ⟨n, H', hN⟩ := run a0 a1 a2 a3 a4 k0 k1 k2 k3 k4
  exact law_contract sOk rfl laidOut hW' (by kernel_rfl) rfl rfl Tryd.underlying4 rfl hG (av := [.agg a0, a1, a2, .agg a3, a4])
    ⟨_, _, rfl, e0, _, _, rfl, e1, _, _, rfl, e2, _, _, rfl, e3, _, _, rfl, e4, rfl⟩ hN

theorem over : Rows.checkProgRow.holds Tryd.pinned (OpenSpec.ofChange Rows.checkProgSpec) :=
  OpenClaim.holds_of_wide 7 Tryd.f7 rfl rfl rfl rfl rfl rfl rfl ⟨rfl, rfl, rfl, rfl, rfl⟩ rfl rfl rfl rfl rfl (by kernel_rfl) Tryd.func7 (by kernel_rfl)
    (of_decide_eq_true (by kernel_rfl)) (by unfold Func.isWrapper; first | (rw [if_pos (by decide +kernel)]; kernel_rfl) | (rw [if_neg (by decide +kernel)]; exact ⟨rfl, rfl⟩))
    (fun os started H enc _ => lifted os started H enc)

/-- ████ THE STATEMENT ████ -/
theorem proved : Rows.CheckProgCardSaid :=
  Claim7.holds_tied_plain_at .later [] _ true _ true
    over (fun _ h => by cases h) (by kernel_rfl) (fun _ h => by cases h) checkProg_row_tie rfl ⟨rfl, rfl⟩ (by kernel_rfl) rfl
    (fun f fn hf hfn => by
      obtain rfl : f = 7 := Option.some.inj ((show Tryd.prog.funcNamed "syncope/syncopelaw6.CheckProg" = some 7 by kernel_rfl).symm.trans hf) |>.symm
      obtain rfl : fn = Tryd.f7 := (Option.some.inj (Tryd.func7.symm.trans hfn)).symm
      exact ⟨by kernel_rfl, fun j t ht => by
        rw [Tryd.params7] at ht
        have hall : ((Tryd.f7.params).toList.all fun t => Tryd.prog.wantsStandIn t == false) = true := by kernel_rfl
        rw [Tryd.params7] at hall
        have := List.all_eq_true.1 hall t (List.mem_of_getElem? (i := j) (by rw [Array.getElem?_toList]; exact ht))
        exact beq_iff_eq.1 this⟩)
    (by kernel_rfl)
#print axioms proved
end Go.Proofs.YtjboohjicdmidaaDoor.checkProg

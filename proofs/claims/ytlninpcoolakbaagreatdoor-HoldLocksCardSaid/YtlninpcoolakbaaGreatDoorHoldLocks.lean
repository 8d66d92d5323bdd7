/- Proved: the law HoldLocks answers true at every input (any numbers of a run, any lock, any number of picks), and leaves its argument as it was. No condition beside the laid variables that the card ties to the program's text. -/
import Derived.Test.YtlninpcoolakbaaGreatDoorLl
import Derived.Test.YtlninpcoolakbaaGreatDoorAl
import Derived.Test.YtlninpcoolakbaaGreatDoorTop
import Derived.Test.YtlninpcoolakbaaGreatDoorCards
import Derived.Test.YtlninpcoolakbaaGreatDoorTie
namespace Go.Proofs.YtlninpcoolakbaaGreatDoor.holdLocks
open Go.ChangeShapes Go.WideShapes Go.ChangeAt Go.RowKit Go.Am Go.Sy
set_option linter.unusedVariables false
theorem k_row {cs : List AVal} (h : IsL [.int .i64, .int .i64, .int .i64, .int .i64, .int .i64, .int .i64, .int .i64, .int .i64] cs) : ∃ k : K8, Ers (C := cod) (away []) (encK k) cs := by
  obtain ⟨_, _, rfl, ⟨a, rfl, _⟩, _, _, rfl, ⟨b, rfl, _⟩, _, _, rfl, ⟨c, rfl, _⟩, _, _, rfl, ⟨d, rfl, _⟩, _, _, rfl, ⟨e, rfl, _⟩, _, _, rfl, ⟨f, rfl, _⟩, _, _, rfl, ⟨g, rfl, _⟩, _, _, rfl, ⟨i, rfl, _⟩, rfl⟩ := h
  exact ⟨⟨a, b, c, d, e, f, g, i⟩, .cons (.i _ _) (.cons (.i _ _) (.cons (.i _ _) (.cons (.i _ _) (.cons (.i _ _) (.cons (.i _ _) (.cons (.i _ _) (.cons (.i _ _) .nil)))))))⟩
theorem int_arg {a : AVal} (h : (Ty.int .i64).Is [a]) : ∃ n, Er (C := cod) (away []) (.i .i64 n) a := by
  obtain ⟨n, e, _⟩ := h
  cases e
  exact ⟨n, .i _ _⟩
theorem run (a0 : List AVal) (a1 a2 : AVal) (h0 : IsL [.int .i64, .int .i64, .int .i64, .int .i64, .int .i64, .int .i64, .int .i64, .int .i64] a0) (h1 : (Ty.int .i64).Is [a1]) (h2 : (Ty.int .i64).Is [a2]) :
    ∃ n H', runA SL n 0 4 [.agg a0, a1, a2] [] = some (.bool true, H') := by
  obtain ⟨k, e0⟩ := k_row h0
  obtain ⟨m, e1⟩ := int_arg h1
  obtain ⟨n, e2⟩ := int_arg h2
  exact locks_run k m n (.cons (.agg e0.1 e0.2) (.cons e1 (.cons e2 .nil)))
theorem sOk : StatOk SL := stOk polL told
set_option maxRecDepth 100000 in
theorem lifted (os : Os) (started : os.Started) (H : Type) (enc : TypeId × Value → H) :
    ReturnsInHanded {} Tryz.checked os 4 .any (fun w args => (Rows.holdLocksSpec.pre enc Tryz.prog Tryz.f4 [] false w args ∧ laidMetH Tryz.prog laidL w) ∧ sizedMet enc Tryz.prog Tryz.f4 (OpenSpec.ofChange Rows.holdLocksSpec) false w args)
      (Rows.holdLocksSpec.post enc Tryz.prog Tryz.f4 false true false false) := by
  refine returnsInHanded_of_change_and (C := Tryz.checked) (X := fun w _ => laidMetH Tryz.prog laidL w) (fun _ _ _ hh h => h.of_heap hh) own started (by kernel_rfl) Tryz.func4
    (ChangeSpec.witness_at (enc := enc) (C := Tryz.checked) (os := os) (X := fun w _ => laidMetH Tryz.prog laidL w) false (laidWorld os) #[.agg #[.int .i64 0, .int .i64 0, .int .i64 0, .int .i64 0, .int .i64 0, .int .i64 0, .int .i64 0, .int .i64 0], .int .i64 0, .int .i64 0] 8 rfl (by kernel_rfl) (by kernel_rfl) (by kernel_rfl) (by kernel_rfl) (by kernel_rfl) (laidWorld_met os _)) ?_
  intro W base args ds gs before hval0 hW _ _ hL _
  have hval : ∀ (j : Nat) t v, Tryz.f4.params[j]? = some t → args[j]? = some v → Value.okWide Tryz.prog W .any base t v := hval0
  have hW' := hW
  obtain ⟨p, q, hA0, hV, rfl, hfz, hnd⟩ := hW
  have hA : DataW.TrodAll enc Tryz.prog W 0 (fun _ => true) true Tryz.f4.params.toList args.toList ds p := hA0
  rw [Tryz.params4] at hA hval
  obtain ⟨v0, vs0, d0, ds0, p0, q0, hargs, rfl, rfl, h0, r0⟩ := trodAll_cons hA
  obtain ⟨v1, vs1, d1, ds1, p1, q1, rfl, rfl, rfl, h1, r1⟩ := trodAll_cons r0
  obtain ⟨v2, vs2, d2, ds2, p2, q2, rfl, rfl, rfl, h2, r2⟩ := trodAll_cons r1
  obtain ⟨rfl, rfl, rfl⟩ := trodAll_nil r2
  obtain rfl : args = #[v0, v1, v2] := by cases args; simp_all
  obtain ⟨rfl, rfl⟩ := trodVars_none hV
  obtain ⟨θ, hG⟩ := globOk polL toldL hL
  obtain ⟨a0, e0, k0⟩ := arg_row (θ := θ) (fs := [.int .i64, .int .i64, .int .i64, .int .i64, .int .i64, .int .i64, .int .i64, .int .i64]) (by kernel_rfl) (hval 0 31 v0 rfl rfl) h0
  obtain ⟨a1, e1, k1⟩ := arg_one (θ := θ) (ty := .int .i64) nofun (by kernel_rfl) (hval 1 3 v1 rfl rfl) h1
  obtain ⟨a2, e2, k2⟩ := arg_one (θ := θ) (ty := .int .i64) nofun (by kernel_rfl) (hval 2 3 v2 rfl rfl) h2
  clear hA0 hval0
  obtain ⟨n, H', hN⟩ := run a0 a1 a2 k0 k1 k2
  exact law_contract sOk rfl laidOut hW' (by kernel_rfl) rfl rfl Tryz.underlying4 rfl hG (av := [.agg a0, a1, a2])
    ⟨_, _, rfl, e0, _, _, rfl, e1, _, _, rfl, e2, rfl⟩ hN
theorem over : Rows.holdLocksRow.holds Tryz.pinned (OpenSpec.ofChange Rows.holdLocksSpec) :=
  OpenClaim.holds_of_wide 4 Tryz.f4 rfl rfl rfl rfl rfl rfl rfl ⟨rfl, rfl, rfl, rfl, rfl⟩ rfl rfl rfl rfl rfl (by kernel_rfl) Tryz.func4 (by kernel_rfl)
    (of_decide_eq_true (by kernel_rfl)) (by unfold Func.isWrapper; first | (rw [if_pos (by decide +kernel)]; kernel_rfl) | (rw [if_neg (by decide +kernel)]; exact ⟨rfl, rfl⟩))
    (fun os started H enc _ => lifted os started H enc)
theorem proved : Rows.HoldLocksCardSaid :=
  Claim7.holds_tied_plain_at .later [] _ true _ true
    over (fun _ h => by cases h) (by kernel_rfl) (fun _ h => by cases h) holdLocks_row_tie rfl ⟨rfl, rfl⟩ (by kernel_rfl) rfl
    (fun f fn hf hfn => by
      obtain rfl : f = 4 := Option.some.inj ((show Tryz.prog.funcNamed "syncope/syncopelaw24.HoldLocks" = some 4 by kernel_rfl).symm.trans hf) |>.symm
      obtain rfl : fn = Tryz.f4 := (Option.some.inj (Tryz.func4.symm.trans hfn)).symm
      exact ⟨by kernel_rfl, fun j t ht => by
        rw [Tryz.params4] at ht
        have hall : ((Tryz.f4.params).toList.all fun t => Tryz.prog.wantsStandIn t == false) = true := by kernel_rfl
        rw [Tryz.params4] at hall
        have := List.all_eq_true.1 hall t (List.mem_of_getElem? (i := j) (by rw [Array.getElem?_toList]; exact ht))
        exact beq_iff_eq.1 this⟩)
    (by kernel_rfl)
#print axioms proved
end Go.Proofs.YtlninpcoolakbaaGreatDoor.holdLocks

/- Proved: the law ReportTallies answers true at every input (any tally, any tries, any stamp), and leaves its arguments as they were. No condition beside the laid tables that the card ties to the program's text. -/
import Derived.Test.YtomlcdalhihnaaaDoorRm
import Derived.Test.YtomlcdalhihnaaaDoorTop
import Derived.Test.YtomlcdalhihnaaaDoorCards
import Derived.Test.YtomlcdalhihnaaaDoorTie
namespace Go.Proofs.YtomlcdalhihnaaaDoor.reportTallies
open Go.ChangeShapes Go.WideShapes Go.ChangeAt Go.RowKit Go.Am Go.Sy
set_option linter.unusedVariables false

theorem slice_one {e : Ty} {cs : List AVal} (h : (Ty.slice e).Is cs) : ∃ v, cs = [v] := by
  rcases h with h | ⟨rows, ex, h, _⟩
  · exact ⟨_, h⟩
  · exact ⟨_, h⟩
theorem op_row : TyRow cod 2 (.row [.int .i64, .int .i64, .int .i64]) fun _ => True := by
  intro cs h
  obtain ⟨_, _, rfl, ⟨a, rfl, _⟩, _, _, rfl, ⟨b, rfl, _⟩, _, _, rfl, ⟨c, rfl, _⟩, rfl⟩ := h
  exact ⟨⟨a, b, c⟩, .cons (.i _ _) (.cons (.i _ _) (.cons (.i _ _) .nil)), trivial⟩
theorem try_row : TyRow cod 3 (.row [.int .i64, .int .i64, .int .i64, .int .i64, .bool, .slice (.row [.int .i64, .int .i64, .int .i64])]) fun _ => True := by
  intro cs h
  obtain ⟨_, _, rfl, ⟨a, rfl, _⟩, _, _, rfl, ⟨b, rfl, _⟩, _, _, rfl, ⟨c, rfl, _⟩, _, _, rfl, ⟨d, rfl, _⟩, _, _, rfl, ⟨e, rfl⟩, _, _, rfl, hs, rfl⟩ := h
  obtain ⟨v, rfl⟩ := slice_one hs
  obtain ⟨l, e1, _, _⟩ := slice_arg (C := cod) codOk (n := 2) op_row rfl hs
  exact ⟨⟨a, b, c, d, e, l⟩, .cons (.i _ _) (.cons (.i _ _) (.cons (.i _ _) (.cons (.i _ _) (.cons (.b _) (.cons e1 .nil))))), trivial⟩
theorem tally_row {cs : List AVal} (h : IsL [.int .i64, .row [.int .i64, .int .i64, .int .i64, .int .i64, .int .i64, .int .i64, .int .i64], .int .i64, .int .i64] cs) : ∃ t : Tly, Ers (C := cod) (away []) (enc6 t) cs ∧ okT t := by
  obtain ⟨_, _, rfl, ⟨a, rfl, a1, a2⟩, _, _, rfl, ⟨_, _, rfl, ⟨c0, rfl, _⟩, _, _, rfl, ⟨c1, rfl, k1⟩, _, _, rfl, ⟨c2, rfl, k2⟩, _, _, rfl, ⟨c3, rfl, k3⟩, _, _, rfl, ⟨c4, rfl, k4⟩, _, _, rfl, ⟨c5, rfl, k5⟩, _, _, rfl, ⟨c6, rfl, k6⟩, rfl⟩, _, _, rfl, ⟨b, rfl, b1, b2⟩, _, _, rfl, ⟨d, rfl, d1, d2⟩, rfl⟩ := h
  refine ⟨⟨a, c0, c1, c2, c3, c4, c5, c6, b, d⟩, .cons (.i _ _) (.cons (.i _ _) (.cons (.i _ _) (.cons (.i _ _) (.cons (.i _ _) (.cons (.i _ _) (.cons (.i _ _) (.cons (.i _ _) (.cons (.i _ _) (.cons (.i _ _) .nil))))))))), ⟨a1, a2⟩, ⟨b1, b2⟩, ⟨d1, d2⟩, ?_⟩
  intro c h1 h2
  rcases (show c = 1 ∨ c = 2 ∨ c = 3 ∨ c = 4 ∨ c = 5 ∨ c = 6 by omega) with rfl | rfl | rfl | rfl | rfl | rfl
  · exact k1
  · exact k2
  · exact k3
  · exact k4
  · exact k5
  · exact k6
theorem run (a0 : List AVal) (a1 a2 : AVal) (h0 : IsL [.int .i64, .row [.int .i64, .int .i64, .int .i64, .int .i64, .int .i64, .int .i64, .int .i64], .int .i64, .int .i64] a0) (h1 : (Ty.slice (.row [.int .i64, .int .i64, .int .i64, .int .i64, .bool, .slice (.row [.int .i64, .int .i64, .int .i64])])).Is [a1]) (h2 : (Ty.int .i64).Is [a2]) : ∃ n H', runA S n 0 3 [.agg a0, a1, a2] [] = some (.bool true, H') := by
  obtain ⟨t, e0, hT⟩ := tally_row h0
  obtain ⟨l, e1, _, _⟩ := slice_arg (C := cod) codOk (n := 3) try_row rfl h1
  obtain ⟨d, hd, d1, d2⟩ := h2
  simp only [List.cons.injEq, and_true] at hd
  subst hd
  exact rt_run t l d hT ⟨d1, d2⟩ (.cons (.agg e0.1 e0.2) (.cons e1 (.cons (.i _ _) .nil)))

set_option maxRecDepth 100000 in
theorem lifted (os : Os) (started : os.Started) (H : Type) (enc : TypeId × Value → H) :
    ReturnsInHanded {} Tryd.checked os 3 .any (fun w args => (Rows.reportTalliesSpec.pre enc Tryd.prog Tryd.f3 [] false w args ∧ laidMetH Tryd.prog laidL w) ∧ sizedMet enc Tryd.prog Tryd.f3 (OpenSpec.ofChange Rows.reportTalliesSpec) false w args)
      (Rows.reportTalliesSpec.post enc Tryd.prog Tryd.f3 false true false false) := by
  refine returnsInHanded_of_change_and (C := Tryd.checked) (X := fun w _ => laidMetH Tryd.prog laidL w) (fun _ _ _ hh h => h.of_heap hh) own started (by kernel_rfl) Tryd.func3
    (ChangeSpec.witness_at (enc := enc) (C := Tryd.checked) (os := os) (X := fun w _ => laidMetH Tryd.prog laidL w) false (laidWorld os) #[.agg #[.int .i64 0, .int .i64 0, .int .i64 0, .int .i64 0, .int .i64 0, .int .i64 0, .int .i64 0, .int .i64 0, .int .i64 0, .int .i64 0], .slice none 0 0, .int .i64 0] 8 rfl (by kernel_rfl) (by kernel_rfl) (by kernel_rfl) (by kernel_rfl) (by kernel_rfl) (laidWorld_met os _)) ?_
  intro W base args ds gs before hval0 hW _ _ hL _
  have hval : ∀ (j : Nat) t v, Tryd.f3.params[j]? = some t → args[j]? = some v → Value.okWide Tryd.prog W .any base t v := hval0
  have hW' := hW
  obtain ⟨p, q, hA0, hV, rfl, hfz, hnd⟩ := hW
  have hA : DataW.TrodAll enc Tryd.prog W 0 (fun _ => true) true Tryd.f3.params.toList args.toList ds p := hA0
  rw [Tryd.params3] at hA hval
  obtain ⟨v0, vs0, d0, ds0, p0, q0, hargs, rfl, rfl, h0, r0⟩ := trodAll_cons hA
  obtain ⟨v1, vs1, d1, ds1, p1, q1, rfl, rfl, rfl, h1, r1⟩ := trodAll_cons r0
  obtain ⟨v2, vs2, d2, ds2, p2, q2, rfl, rfl, rfl, h2, r2⟩ := trodAll_cons r1
  obtain ⟨rfl, rfl, rfl⟩ := trodAll_nil r2
  obtain rfl : args = #[v0, v1, v2] := by cases args; simp_all
  obtain ⟨rfl, rfl⟩ := trodVars_none hV
  obtain ⟨θ, hG⟩ := globOk pol toldL hL
  obtain ⟨a0, e0, k0⟩ := arg_row (θ := θ) (fs := [.int .i64, .row [.int .i64, .int .i64, .int .i64, .int .i64, .int .i64, .int .i64, .int .i64], .int .i64, .int .i64]) (by kernel_rfl) (hval 0 24 v0 rfl rfl) h0
  obtain ⟨a1, e1, k1⟩ := arg_one (θ := θ) (ty := .slice (.row [.int .i64, .int .i64, .int .i64, .int .i64, .bool, .slice (.row [.int .i64, .int .i64, .int .i64])])) nofun (by kernel_rfl) (hval 1 25 v1 rfl rfl) h1
  obtain ⟨a2, e2, k2⟩ := arg_one (θ := θ) (ty := .int .i64) nofun (by kernel_rfl) (hval 2 2 v2 rfl rfl) h2
  clear hA0 hval0
  obtain ⟨n, H', hN⟩ := run a0 a1 a2 k0 k1 k2
  exact law_contract sOk rfl laidOut hW' (by kernel_rfl) rfl rfl Tryd.underlying4 rfl hG (av := [.agg a0, a1, a2])
    ⟨_, _, rfl, e0, _, _, rfl, e1, _, _, rfl, e2, rfl⟩ hN

theorem over : Rows.reportTalliesRow.holds Tryd.pinned (OpenSpec.ofChange Rows.reportTalliesSpec) :=
  OpenClaim.holds_of_wide 3 Tryd.f3 rfl rfl rfl rfl rfl rfl rfl ⟨rfl, rfl, rfl, rfl, rfl⟩ rfl rfl rfl rfl rfl (by kernel_rfl) Tryd.func3 (by kernel_rfl)
    (of_decide_eq_true (by kernel_rfl)) (by unfold Func.isWrapper; first | (rw [if_pos (by decide +kernel)]; kernel_rfl) | (rw [if_neg (by decide +kernel)]; exact ⟨rfl, rfl⟩))
    (fun os started H enc _ => lifted os started H enc)

/-- ████ THE STATEMENT ████ -/
theorem proved : Rows.ReportTalliesCardSaid :=
  Claim7.holds_tied_plain_at .later [] _ true _ true
    over (fun _ h => by cases h) (by kernel_rfl) (fun _ h => by cases h) reportTallies_row_tie rfl ⟨rfl, rfl⟩ (by kernel_rfl) rfl
    (fun f fn hf hfn => by
      obtain rfl : f = 3 := Option.some.inj ((show Tryd.prog.funcNamed "syncope/syncopelaw29.ReportTallies" = some 3 by kernel_rfl).symm.trans hf) |>.symm
      obtain rfl : fn = Tryd.f3 := (Option.some.inj (Tryd.func3.symm.trans hfn)).symm
      exact ⟨by kernel_rfl, fun j t ht => by
        rw [Tryd.params3] at ht
        have hall : ((Tryd.f3.params).toList.all fun t => Tryd.prog.wantsStandIn t == false) = true := by kernel_rfl
        rw [Tryd.params3] at hall
        have := List.all_eq_true.1 hall t (List.mem_of_getElem? (i := j) (by rw [Array.getElem?_toList]; exact ht))
        exact beq_iff_eq.1 this⟩)
    (by kernel_rfl)
#print axioms proved
end Go.Proofs.YtomlcdalhihnaaaDoor.reportTallies

/- Proved: the law BlameCodes answers true at every input (any two numbers), and leaves its arguments as they were. No condition beside the laid variables that the card ties to the program's text. -/
import Derived.Test.YtomlcdalhihnaaaDoorCodesRun0
import Derived.Test.YtomlcdalhihnaaaDoorCodesRun1
import Derived.Test.YtomlcdalhihnaaaDoorCodesRun2
import Derived.Test.YtomlcdalhihnaaaDoorCodesRun3
import Derived.Test.YtomlcdalhihnaaaDoorCards
import Derived.Test.YtomlcdalhihnaaaDoorTie
namespace Go.Proofs.YtomlcdalhihnaaaDoor.blameCodes
open Go.ChangeShapes Go.WideShapes Go.ChangeAt Go.RowKit Go.Am
set_option linter.unusedVariables false

theorem run (a b : Int) : ∃ n H', runA S n 0 4 [.int .i64 a, .int .i64 b] [] = some (.bool true, H') := by
  have key : ∀ n : Int, n = 1 ∨ n = 2 ∨ n = 3 ∨ n = 4 ∨ n = 5 ∨ n = 6 ∨ n = 7 ∨ n = 8 ∨ n = 9 ∨ n = 10 ∨ n < 1 ∨ 10 < n := fun n => by omega
  rcases key a with rfl | rfl | rfl | rfl | rfl | rfl | rfl | rfl | rfl | rfl | ha | ha <;> rcases key b with rfl | rfl | rfl | rfl | rfl | rfl | rfl | rfl | rfl | rfl | hb | hb
  · exact ⟨5000, e_1_1⟩
  · exact ⟨5000, e_1_2⟩
  · exact ⟨5000, e_1_3⟩
  · exact ⟨5000, e_1_4⟩
  · exact ⟨5000, e_1_5⟩
  · exact ⟨5000, e_1_6⟩
  · exact ⟨5000, e_1_7⟩
  · exact ⟨5000, e_1_8⟩
  · exact ⟨5000, e_1_9⟩
  · exact ⟨5000, e_1_10⟩
  · exact ⟨5000, e_1_lo b hb⟩
  · exact ⟨5000, e_1_hi b hb⟩
  · exact ⟨5000, e_2_1⟩
  · exact ⟨5000, e_2_2⟩
  · exact ⟨5000, e_2_3⟩
  · exact ⟨5000, e_2_4⟩
  · exact ⟨5000, e_2_5⟩
  · exact ⟨5000, e_2_6⟩
  · exact ⟨5000, e_2_7⟩
  · exact ⟨5000, e_2_8⟩
  · exact ⟨5000, e_2_9⟩
  · exact ⟨5000, e_2_10⟩
  · exact ⟨5000, e_2_lo b hb⟩
  · exact ⟨5000, e_2_hi b hb⟩
  · exact ⟨5000, e_3_1⟩
  · exact ⟨5000, e_3_2⟩
  · exact ⟨5000, e_3_3⟩
  · exact ⟨5000, e_3_4⟩
  · exact ⟨5000, e_3_5⟩
  · exact ⟨5000, e_3_6⟩
  · exact ⟨5000, e_3_7⟩
  · exact ⟨5000, e_3_8⟩
  · exact ⟨5000, e_3_9⟩
  · exact ⟨5000, e_3_10⟩
  · exact ⟨5000, e_3_lo b hb⟩
  · exact ⟨5000, e_3_hi b hb⟩
  · exact ⟨5000, e_4_1⟩
  · exact ⟨5000, e_4_2⟩
  · exact ⟨5000, e_4_3⟩
  · exact ⟨5000, e_4_4⟩
  · exact ⟨5000, e_4_5⟩
  · exact ⟨5000, e_4_6⟩
  · exact ⟨5000, e_4_7⟩
  · exact ⟨5000, e_4_8⟩
  · exact ⟨5000, e_4_9⟩
  · exact ⟨5000, e_4_10⟩
  · exact ⟨5000, e_4_lo b hb⟩
  · exact ⟨5000, e_4_hi b hb⟩
  · exact ⟨5000, e_5_1⟩
  · exact ⟨5000, e_5_2⟩
  · exact ⟨5000, e_5_3⟩
  · exact ⟨5000, e_5_4⟩
  · exact ⟨5000, e_5_5⟩
  · exact ⟨5000, e_5_6⟩
  · exact ⟨5000, e_5_7⟩
  · exact ⟨5000, e_5_8⟩
  · exact ⟨5000, e_5_9⟩
  · exact ⟨5000, e_5_10⟩
  · exact ⟨5000, e_5_lo b hb⟩
  · exact ⟨5000, e_5_hi b hb⟩
  · exact ⟨5000, e_6_1⟩
  · exact ⟨5000, e_6_2⟩
  · exact ⟨5000, e_6_3⟩
  · exact ⟨5000, e_6_4⟩
  · exact ⟨5000, e_6_5⟩
  · exact ⟨5000, e_6_6⟩
  · exact ⟨5000, e_6_7⟩
  · exact ⟨5000, e_6_8⟩
  · exact ⟨5000, e_6_9⟩
  · exact ⟨5000, e_6_10⟩
  · exact ⟨5000, e_6_lo b hb⟩
  · exact ⟨5000, e_6_hi b hb⟩
  · exact ⟨5000, e_7_1⟩
  · exact ⟨5000, e_7_2⟩
  · exact ⟨5000, e_7_3⟩
  · exact ⟨5000, e_7_4⟩
  · exact ⟨5000, e_7_5⟩
  · exact ⟨5000, e_7_6⟩
  · exact ⟨5000, e_7_7⟩
  · exact ⟨5000, e_7_8⟩
  · exact ⟨5000, e_7_9⟩
  · exact ⟨5000, e_7_10⟩
  · exact ⟨5000, e_7_lo b hb⟩
  · exact ⟨5000, e_7_hi b hb⟩
  · exact ⟨5000, e_8_1⟩
  · exact ⟨5000, e_8_2⟩
  · exact ⟨5000, e_8_3⟩
  · exact ⟨5000, e_8_4⟩
  · exact ⟨5000, e_8_5⟩
  · exact ⟨5000, e_8_6⟩
  · exact ⟨5000, e_8_7⟩
  · exact ⟨5000, e_8_8⟩
  · exact ⟨5000, e_8_9⟩
  · exact ⟨5000, e_8_10⟩
  · exact ⟨5000, e_8_lo b hb⟩
  · exact ⟨5000, e_8_hi b hb⟩
  · exact ⟨5000, e_9_1⟩
  · exact ⟨5000, e_9_2⟩
  · exact ⟨5000, e_9_3⟩
  · exact ⟨5000, e_9_4⟩
  · exact ⟨5000, e_9_5⟩
  · exact ⟨5000, e_9_6⟩
  · exact ⟨5000, e_9_7⟩
  · exact ⟨5000, e_9_8⟩
  · exact ⟨5000, e_9_9⟩
  · exact ⟨5000, e_9_10⟩
  · exact ⟨5000, e_9_lo b hb⟩
  · exact ⟨5000, e_9_hi b hb⟩
  · exact ⟨5000, e_10_1⟩
  · exact ⟨5000, e_10_2⟩
  · exact ⟨5000, e_10_3⟩
  · exact ⟨5000, e_10_4⟩
  · exact ⟨5000, e_10_5⟩
  · exact ⟨5000, e_10_6⟩
  · exact ⟨5000, e_10_7⟩
  · exact ⟨5000, e_10_8⟩
  · exact ⟨5000, e_10_9⟩
  · exact ⟨5000, e_10_10⟩
  · exact ⟨5000, e_10_lo b hb⟩
  · exact ⟨5000, e_10_hi b hb⟩
  · exact ⟨5000, e_lo_1 a ha⟩
  · exact ⟨5000, e_lo_2 a ha⟩
  · exact ⟨5000, e_lo_3 a ha⟩
  · exact ⟨5000, e_lo_4 a ha⟩
  · exact ⟨5000, e_lo_5 a ha⟩
  · exact ⟨5000, e_lo_6 a ha⟩
  · exact ⟨5000, e_lo_7 a ha⟩
  · exact ⟨5000, e_lo_8 a ha⟩
  · exact ⟨5000, e_lo_9 a ha⟩
  · exact ⟨5000, e_lo_10 a ha⟩
  · exact ⟨5000, e_lo_lo a b ha hb⟩
  · exact ⟨5000, e_lo_hi a b ha hb⟩
  · exact ⟨5000, e_hi_1 a ha⟩
  · exact ⟨5000, e_hi_2 a ha⟩
  · exact ⟨5000, e_hi_3 a ha⟩
  · exact ⟨5000, e_hi_4 a ha⟩
  · exact ⟨5000, e_hi_5 a ha⟩
  · exact ⟨5000, e_hi_6 a ha⟩
  · exact ⟨5000, e_hi_7 a ha⟩
  · exact ⟨5000, e_hi_8 a ha⟩
  · exact ⟨5000, e_hi_9 a ha⟩
  · exact ⟨5000, e_hi_10 a ha⟩
  · exact ⟨5000, e_hi_lo a b ha hb⟩
  · exact ⟨5000, e_hi_hi a b ha hb⟩

set_option maxRecDepth 100000 in
theorem lifted (os : Os) (started : os.Started) (H : Type) (enc : TypeId × Value → H) :
    ReturnsInHanded {} Tryd.checked os 4 .any (fun w args => (Rows.blameCodesSpec.pre enc Tryd.prog Tryd.f4 [] false w args ∧ laidMetH Tryd.prog laidL w) ∧ sizedMet enc Tryd.prog Tryd.f4 (OpenSpec.ofChange Rows.blameCodesSpec) false w args)
      (Rows.blameCodesSpec.post enc Tryd.prog Tryd.f4 false true false false) := by
  refine returnsInHanded_of_change_and (C := Tryd.checked) (X := fun w _ => laidMetH Tryd.prog laidL w) (fun _ _ _ hh h => h.of_heap hh) own started (by kernel_rfl) Tryd.func4
    (ChangeSpec.witness_at (enc := enc) (C := Tryd.checked) (os := os) (X := fun w _ => laidMetH Tryd.prog laidL w) false (laidWorld os) #[.int .i64 0, .int .i64 0] 8 rfl (by kernel_rfl) (by kernel_rfl) (by kernel_rfl) (by kernel_rfl) (by kernel_rfl) (laidWorld_met os _)) ?_
  intro W base args ds gs before hval0 hW _ _ hL _
  have hval : ∀ (j : Nat) t v, Tryd.f4.params[j]? = some t → args[j]? = some v → Value.okWide Tryd.prog W .any base t v := hval0
  have hW' := hW
  obtain ⟨p, q, hA0, hV, rfl, hfz, hnd⟩ := hW
  have hA : DataW.TrodAll enc Tryd.prog W 0 (fun _ => true) true Tryd.f4.params.toList args.toList ds p := hA0
  rw [Tryd.params4] at hA hval
  obtain ⟨v0, vs0, d0, ds0, p0, q0, hargs, rfl, rfl, h0, r0⟩ := trodAll_cons hA
  obtain ⟨v1, vs1, d1, ds1, p1, q1, rfl, rfl, rfl, h1, r1⟩ := trodAll_cons r0
  obtain ⟨rfl, rfl, rfl⟩ := trodAll_nil r1
  obtain rfl : args = #[v0, v1] := by cases args; simp_all
  obtain ⟨rfl, rfl⟩ := trodVars_none hV
  obtain ⟨a0, rfl, rfl, rfl, w0⟩ := open_int Tryd.underlying3 (hval 0 3 v0 rfl rfl) h0
  obtain ⟨a1, rfl, rfl, rfl, w1⟩ := open_int Tryd.underlying3 (hval 1 3 v1 rfl rfl) h1
  clear hA0 hval0
  obtain ⟨n, H', hN⟩ := run a0 a1
  obtain ⟨θ, hG⟩ := globOk pol toldL hL
  exact law_contract sOk rfl laidOut hW' (by kernel_rfl) rfl rfl Tryd.underlying4 rfl hG (av := [.int .i64 a0, .int .i64 a1])
    ⟨_, _, rfl, rfl, _, _, rfl, rfl, rfl⟩ hN

theorem over : Rows.blameCodesRow.holds Tryd.pinned (OpenSpec.ofChange Rows.blameCodesSpec) :=
  OpenClaim.holds_of_wide 4 Tryd.f4 rfl rfl rfl rfl rfl rfl rfl ⟨rfl, rfl, rfl, rfl, rfl⟩ rfl rfl rfl rfl rfl (by kernel_rfl) Tryd.func4 (by kernel_rfl)
    (of_decide_eq_true (by kernel_rfl)) (by unfold Func.isWrapper; first | (rw [if_pos (by decide +kernel)]; kernel_rfl) | (rw [if_neg (by decide +kernel)]; exact ⟨rfl, rfl⟩))
    (fun os started H enc _ => lifted os started H enc)

/-- ████ THE STATEMENT ████ -/
theorem proved : Rows.BlameCodesCardSaid :=
  Claim7.holds_tied_plain_at .later [] _ true _ true
    over (fun _ h => by cases h) (by kernel_rfl) (fun _ h => by cases h) blameCodes_row_tie rfl ⟨rfl, rfl⟩ (by kernel_rfl) rfl
    (fun f fn hf hfn => by
      obtain rfl : f = 4 := Option.some.inj ((show Tryd.prog.funcNamed "syncope/syncopelaw1.BlameCodes" = some 4 by kernel_rfl).symm.trans hf) |>.symm
      obtain rfl : fn = Tryd.f4 := (Option.some.inj (Tryd.func4.symm.trans hfn)).symm
      exact ⟨by kernel_rfl, fun j t ht => by
        rw [Tryd.params4] at ht
        have hall : ((Tryd.f4.params).toList.all fun t => Tryd.prog.wantsStandIn t == false) = true := by kernel_rfl
        rw [Tryd.params4] at hall
        have := List.all_eq_true.1 hall t (List.mem_of_getElem? (i := j) (by rw [Array.getElem?_toList]; exact ht))
        exact beq_iff_eq.1 this⟩)
    (by kernel_rfl)
#print axioms proved
end Go.Proofs.YtomlcdalhihnaaaDoor.blameCodes

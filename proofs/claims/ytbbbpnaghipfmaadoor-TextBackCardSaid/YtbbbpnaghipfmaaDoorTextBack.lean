/- Proved: the law TextBack answers true at every input (any rows, gaps or not), and leaves its arguments as they were. No condition beside the laid variables that the card ties to the program's text. -/
import Derived.Test.YtbbbpnaghipfmaaDoorBk
import Derived.Test.YtbbbpnaghipfmaaDoorTop
import Derived.Test.YtbbbpnaghipfmaaDoorCards
import Derived.Test.YtbbbpnaghipfmaaDoorTie
namespace Go.Proofs.YtbbbpnaghipfmaaDoor.textBack
open Go.ChangeShapes Go.WideShapes Go.ChangeAt Go.RowKit Go.Am Go.Sy
set_option linter.unusedVariables false

theorem rw_row : TyRow cod 5 (.row [.row [.int .i64, .int .i64, .int .i64, .int .i64], .int .i64, .bool]) fun x => okI x.n := by
  intro cs h
  obtain ⟨_, _, rfl, ⟨_, _, rfl, ⟨a, rfl, _⟩, _, _, rfl, ⟨b, rfl, _⟩, _, _, rfl, ⟨c, rfl, _⟩, _, _, rfl, ⟨d, rfl, _⟩, rfl⟩, _, _, rfl, ⟨e, rfl, he⟩, _, _, rfl, ⟨f, rfl⟩, rfl⟩ := h
  exact ⟨⟨a, b, c, d, e, f⟩, .cons (.i _ _) (.cons (.i _ _) (.cons (.i _ _) (.cons (.i _ _) (.cons (.i _ _) (.cons (.b _) .nil))))), he⟩
theorem run (a0 a1 : AVal) (h0 : (Ty.slice (.row [.row [.int .i64, .int .i64, .int .i64, .int .i64], .int .i64, .bool])).Is [a0]) (h1 : (Ty.bool).Is [a1]) :
    ∃ n H', runA (S prXs) n 0 4 [a0, a1] [] = some (.bool true, H') := by
  obtain ⟨l, e0, _, hl⟩ := slice_arg (C := cod) codOk (n := 5) rw_row rfl h0
  obtain ⟨g, hg⟩ := h1
  simp only [List.cons.injEq, and_true] at hg
  subst hg
  exact back_run l hl g (.cons e0 (.cons (.b _) .nil))

set_option maxRecDepth 100000 in
theorem lifted (os : Os) (started : os.Started) (H : Type) (enc : TypeId × Value → H) :
    ReturnsInHanded {} Tryd.checked os 4 .any (fun w args => (Rows.textBackSpec.pre enc Tryd.prog Tryd.f4 [] false w args ∧ laidMetH Tryd.prog laidL w) ∧ sizedMet enc Tryd.prog Tryd.f4 (OpenSpec.ofChange Rows.textBackSpec) false w args)
      (Rows.textBackSpec.post enc Tryd.prog Tryd.f4 false true false false) := by
  refine returnsInHanded_of_change_and (C := Tryd.checked) (X := fun w _ => laidMetH Tryd.prog laidL w) (fun _ _ _ hh h => h.of_heap hh) own started (by kernel_rfl) Tryd.func4
    (ChangeSpec.witness_at (enc := enc) (C := Tryd.checked) (os := os) (X := fun w _ => laidMetH Tryd.prog laidL w) false (laidWorld os) #[.slice none 0 0, .bool false] 8 rfl (by kernel_rfl) (by kernel_rfl) (by kernel_rfl) (by kernel_rfl) (by kernel_rfl) (laidWorld_met os _)) ?_
  intro W base args ds gs before hval0 hW _ _ hL _
  have hval : ∀ (j : Nat) t v, Tryd.f4.params[j]? = some t → args[j]? = some v → Value.okWide Tryd.prog W .any base t v := hval0
  have hW' := hW
  obtain ⟨p, q, hA0, hV, rfl, hfz, hnd⟩ := hW
  have hA : DataW.TrodAll enc Tryd.prog W 0 (fun _ => true) true Tryd.f4.params.toList args.toList ds p := hA0
  rw [Tryd.params4] at hA hval
  obtain ⟨v0, vs0, d0, ds0, p0, q0, hargs, rfl, rfl, h0, r0⟩ := trodAll_cons hA
  obtain ⟨v1, vs1, d1, ds1, p1, q1, rfl, rfl, rfl, h1, r1⟩ := trodAll_cons r0
  obtain ⟨rfl, rfl, rfl⟩ := trodAll_nil r1
  obtain rfl : args = #[v0, v1] := by cases args; simp_all
  obtain ⟨rfl, rfl⟩ := trodVars_none hV
  obtain ⟨θ, hG⟩ := globOk pol toldL prXs hL
  obtain ⟨a0, e0, k0⟩ := arg_one (θ := θ) (ty := .slice (.row [.row [.int .i64, .int .i64, .int .i64, .int .i64], .int .i64, .bool])) nofun (by kernel_rfl) (hval 0 22 v0 rfl rfl) h0
  obtain ⟨a1, e1, k1⟩ := arg_one (θ := θ) (ty := .bool) nofun (by kernel_rfl) (hval 1 4 v1 rfl rfl) h1
  clear hA0 hval0
  obtain ⟨n, H', hN⟩ := run a0 a1 k0 k1
  exact law_contract (stOk pol told prXsOk) rfl laidOut hW' (by kernel_rfl) rfl rfl Tryd.underlying4 rfl hG (av := [a0, a1])
    ⟨_, _, rfl, e0, _, _, rfl, e1, rfl⟩ hN

theorem over : Rows.textBackRow.holds Tryd.pinned (OpenSpec.ofChange Rows.textBackSpec) :=
  OpenClaim.holds_of_wide 4 Tryd.f4 rfl rfl rfl rfl rfl rfl rfl ⟨rfl, rfl, rfl, rfl, rfl⟩ rfl rfl rfl rfl rfl (by kernel_rfl) Tryd.func4 (by kernel_rfl)
    (of_decide_eq_true (by kernel_rfl)) (by unfold Func.isWrapper; first | (rw [if_pos (by decide +kernel)]; kernel_rfl) | (rw [if_neg (by decide +kernel)]; exact ⟨rfl, rfl⟩))
    (fun os started H enc _ => lifted os started H enc)

/-- ████ THE STATEMENT ████ -/
theorem proved : Rows.TextBackCardSaid :=
  Claim7.holds_tied_plain_at .later [] _ true _ true
    over (fun _ h => by cases h) (by kernel_rfl) (fun _ h => by cases h) textBack_row_tie rfl ⟨rfl, rfl⟩ (by kernel_rfl) rfl
    (fun f fn hf hfn => by
      obtain rfl : f = 4 := Option.some.inj ((show Tryd.prog.funcNamed "syncope/syncopelaw5.TextBack" = some 4 by kernel_rfl).symm.trans hf) |>.symm
      obtain rfl : fn = Tryd.f4 := (Option.some.inj (Tryd.func4.symm.trans hfn)).symm
      exact ⟨by kernel_rfl, fun j t ht => by
        rw [Tryd.params4] at ht
        have hall : ((Tryd.f4.params).toList.all fun t => Tryd.prog.wantsStandIn t == false) = true := by kernel_rfl
        rw [Tryd.params4] at hall
        have := List.all_eq_true.1 hall t (List.mem_of_getElem? (i := j) (by rw [Array.getElem?_toList]; exact ht))
        exact beq_iff_eq.1 this⟩)
    (by kernel_rfl)
#print axioms proved

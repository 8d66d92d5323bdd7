/- Proved: the law TextParses answers true at every input (any text, any rows, any place and byte), and leaves its arguments as they were. No condition beside the laid variables that the card ties to the program's text. -/
import Derived.Test.YtbbbpnaghipfmaaGreatDoorPe
import Derived.Test.YtbbbpnaghipfmaaGreatDoorTop
import Derived.Test.YtbbbpnaghipfmaaGreatDoorCards
import Derived.Test.YtbbbpnaghipfmaaGreatDoorTie
namespace Go.Proofs.YtbbbpnaghipfmaaGreatDoor.textParses
open Go.ChangeShapes Go.WideShapes Go.ChangeAt Go.RowKit Go.Am Go.Sy
set_option linter.unusedVariables false

theorem rw_row : TyRow cod 5 (.row [.row [.int .i64, .int .i64, .int .i64, .int .i64], .int .i64, .bool]) fun x => okI x.n := by
  intro cs h
  obtain ⟨_, _, rfl, ⟨_, _, rfl, ⟨a, rfl, _⟩, _, _, rfl, ⟨b, rfl, _⟩, _, _, rfl, ⟨c, rfl, _⟩, _, _, rfl, ⟨d, rfl, _⟩, rfl⟩, _, _, rfl, ⟨e, rfl, he⟩, _, _, rfl, ⟨f, rfl⟩, rfl⟩ := h
  exact ⟨⟨a, b, c, d, e, f⟩, .cons (.i _ _) (.cons (.i _ _) (.cons (.i _ _) (.cons (.i _ _) (.cons (.i _ _) (.cons (.b _) .nil))))), he⟩
theorem run (a0 a1 a2 a3 : AVal) (h0 : (Ty.str).Is [a0]) (h1 : (Ty.slice (.row [.row [.int .i64, .int .i64, .int .i64, .int .i64], .int .i64, .bool])).Is [a1]) (h2 : (Ty.int .i64).Is [a2]) (h3 : (Ty.int .u8).Is [a3]) :
    ∃ n H', runA S n 0 3 [a0, a1, a2, a3] [] = some (.bool true, H') := by
  obtain ⟨s, hs, _⟩ := h0
  obtain ⟨l, e1, _, hl⟩ := slice_arg (C := cod) codOk (n := 5) rw_row rfl h1
  obtain ⟨t, ht, _⟩ := h2
  obtain ⟨x, hx, _⟩ := h3
  simp only [List.cons.injEq, and_true] at hs ht hx
  subst hs ht hx
  exact parses_run s l t x (.cons (.s _) (.cons e1 (.cons (.i _ _) (.cons (.i _ _) .nil))))

set_option maxRecDepth 100000 in
theorem lifted (os : Os) (started : os.Started) (H : Type) (enc : TypeId × Value → H) :
    ReturnsInHanded {} Tryz.checked os 3 .any (fun w args => (Rows.textParsesSpec.pre enc Tryz.prog Tryz.f3 [] false w args ∧ laidMetH Tryz.prog laidL w) ∧ sizedMet enc Tryz.prog Tryz.f3 (OpenSpec.ofChange Rows.textParsesSpec) false w args)
      (Rows.textParsesSpec.post enc Tryz.prog Tryz.f3 false true false false) := by
  refine returnsInHanded_of_change_and (C := Tryz.checked) (X := fun w _ => laidMetH Tryz.prog laidL w) (fun _ _ _ hh h => h.of_heap hh) own started (by kernel_rfl) Tryz.func3
    (ChangeSpec.witness_at (enc := enc) (C := Tryz.checked) (os := os) (X := fun w _ => laidMetH Tryz.prog laidL w) false (laidWorld os) #[.string .empty, .slice none 0 0, .int .i64 0, .int .u8 0] 8 rfl (by kernel_rfl) (by kernel_rfl) (by kernel_rfl) (by kernel_rfl) (by kernel_rfl) (laidWorld_met os _)) ?_
  intro W base args ds gs before hval0 hW _ _ hL _
  have hval : ∀ (j : Nat) t v, Tryz.f3.params[j]? = some t → args[j]? = some v → Value.okWide Tryz.prog W .any base t v := hval0
  have hW' := hW
  obtain ⟨p, q, hA0, hV, rfl, hfz, hnd⟩ := hW
  have hA : DataW.TrodAll enc Tryz.prog W 0 (fun _ => true) true Tryz.f3.params.toList args.toList ds p := hA0
  rw [Tryz.params3] at hA hval
  obtain ⟨v0, vs0, d0, ds0, p0, q0, hargs, rfl, rfl, h0, r0⟩ := trodAll_cons hA
  obtain ⟨v1, vs1, d1, ds1, p1, q1, rfl, rfl, rfl, h1, r1⟩ := trodAll_cons r0
  obtain ⟨v2, vs2, d2, ds2, p2, q2, rfl, rfl, rfl, h2, r2⟩ := trodAll_cons r1
  obtain ⟨v3, vs3, d3, ds3, p3, q3, rfl, rfl, rfl, h3, r3⟩ := trodAll_cons r2
  obtain ⟨rfl, rfl, rfl⟩ := trodAll_nil r3
  obtain rfl : args = #[v0, v1, v2, v3] := by cases args; simp_all
  obtain ⟨rfl, rfl⟩ := trodVars_none hV
  obtain ⟨θ, hG⟩ := globOk pol toldL hL
  obtain ⟨a0, e0, k0⟩ := arg_one (θ := θ) (ty := .str) nofun (by kernel_rfl) (hval 0 9 v0 rfl rfl) h0
  obtain ⟨a1, e1, k1⟩ := arg_one (θ := θ) (ty := .slice (.row [.row [.int .i64, .int .i64, .int .i64, .int .i64], .int .i64, .bool])) nofun (by kernel_rfl) (hval 1 22 v1 rfl rfl) h1
  obtain ⟨a2, e2, k2⟩ := arg_one (θ := θ) (ty := .int .i64) nofun (by kernel_rfl) (hval 2 3 v2 rfl rfl) h2
  obtain ⟨a3, e3, k3⟩ := arg_one (θ := θ) (ty := .int .u8) nofun (by kernel_rfl) (hval 3 5 v3 rfl rfl) h3
  clear hA0 hval0
  obtain ⟨n, H', hN⟩ := run a0 a1 a2 a3 k0 k1 k2 k3
  exact law_contract sOk rfl laidOut hW' (by kernel_rfl) rfl rfl Tryz.underlying4 rfl hG (av := [a0, a1, a2, a3])
    ⟨_, _, rfl, e0, _, _, rfl, e1, _, _, rfl, e2, _, _, rfl, e3, rfl⟩ hN

theorem over : Rows.textParsesRow.holds Tryz.pinned (OpenSpec.ofChange Rows.textParsesSpec) :=
  OpenClaim.holds_of_wide 3 Tryz.f3 rfl rfl rfl rfl rfl rfl rfl ⟨rfl, rfl, rfl, rfl, rfl⟩ rfl rfl rfl rfl rfl (by kernel_rfl) Tryz.func3 (by kernel_rfl)
    (of_decide_eq_true (by kernel_rfl)) (by unfold Func.isWrapper; first | (rw [if_pos (by decide +kernel)]; kernel_rfl) | (rw [if_neg (by decide +kernel)]; exact ⟨rfl, rfl⟩))
    (fun os started H enc _ => lifted os started H enc)

/-- ████ THE STATEMENT ████ -/
theorem proved : Rows.TextParsesCardSaid :=
  Claim7.holds_tied_plain_at .later [] _ true _ true
    over (fun _ h => by cases h) (by kernel_rfl) (fun _ h => by cases h) textParses_row_tie rfl ⟨rfl, rfl⟩ (by kernel_rfl) rfl
    (fun f fn hf hfn => by
      obtain rfl : f = 3 := Option.some.inj ((show Tryz.prog.funcNamed "syncope/syncopelaw5.TextParses" = some 3 by kernel_rfl).symm.trans hf) |>.symm
      obtain rfl : fn = Tryz.f3 := (Option.some.inj (Tryz.func3.symm.trans hfn)).symm
      exact ⟨by kernel_rfl, fun j t ht => by
        rw [Tryz.params3] at ht
        have hall : ((Tryz.f3.params).toList.all fun t => Tryz.prog.wantsStandIn t == false) = true := by kernel_rfl
        rw [Tryz.params3] at hall
        have := List.all_eq_true.1 hall t (List.mem_of_getElem? (i := j) (by rw [Array.getElem?_toList]; exact ht))
        exact beq_iff_eq.1 this⟩)
    (by kernel_rfl)
#print axioms proved

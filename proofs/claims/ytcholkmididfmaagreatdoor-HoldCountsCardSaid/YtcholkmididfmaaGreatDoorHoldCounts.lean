/- Proved: the law HoldCounts answers true at every input (any rows of numbers, any picks), and leaves its arguments as they were. No condition beside the laid variables that the card ties to the program's text. -/
import Derived.Test.YtcholkmididfmaaGreatDoorFk
import Derived.Test.YtcholkmididfmaaGreatDoorAl
import Derived.Test.YtcholkmididfmaaGreatDoorTop
import Derived.Test.YtcholkmididfmaaGreatDoorCards
import Derived.Test.YtcholkmididfmaaGreatDoorTie
namespace Go.Proofs.YtcholkmididfmaaGreatDoor.holdCounts
open Go.ChangeShapes Go.WideShapes Go.ChangeAt Go.RowKit Go.Am Go.Sy
set_option linter.unusedVariables false
theorem int_row : TyRow cod 0 (.int .i64) fun _ => True := by
 intro cs h
 obtain ⟨a,rfl,_⟩ := h
 exact ⟨a,.cons (.i _ _) .nil,trivial⟩
theorem list_row : TyRow cod 5 (.slice (.int .i64)) fun _ => True := by
 intro cs h
 have h1 : ∃ a,cs = [a] := by
  simp only [Ty.Is] at h
  rcases h with rfl | ⟨rows,ex,rfl,_,_⟩
  ·exact ⟨_,rfl⟩
  ·exact ⟨_,rfl⟩
 obtain ⟨a,rfl⟩ := h1
 obtain ⟨l,e,_,_⟩ := slice_arg (C := cod) codOk (n := 0) int_row rfl h
 exact ⟨l,.cons e .nil,trivial⟩
theorem run (a0 a1 : AVal) (h0 : (Ty.slice (.slice (.int .i64))).Is [a0]) (h1 : (Ty.slice (.int .i64)).Is [a1]) :
 ∃ n H',runA S n 0 6 [a0,a1] [] = some (.bool true,H') := by
 obtain ⟨rows,e0,_,_⟩ := slice_arg (C := cod) codOk (n := 5) list_row rfl h0
 obtain ⟨l,e1,_,_⟩ := slice_arg (C := cod) codOk (n := 0) int_row rfl h1
 exact counts_run rows l (.cons e0 (.cons e1 .nil))
theorem sOk : StatOk S := stOk pol told
set_option maxRecDepth 100000 in
theorem lifted (os : Os) (started : os.Started) (H : Type) (enc : TypeId × Value → H) :
 ReturnsInHanded {} Tryz.checked os 6 .any (fun w args => (Rows.holdCountsSpec.pre enc Tryz.prog Tryz.f6 [] false w args ∧ laidMetH Tryz.prog laidL w) ∧ sizedMet enc Tryz.prog Tryz.f6 (OpenSpec.ofChange Rows.holdCountsSpec) false w args)
  (Rows.holdCountsSpec.post enc Tryz.prog Tryz.f6 false true false false) := by
 refine returnsInHanded_of_change_and (C := Tryz.checked) (X := fun w _ => laidMetH Tryz.prog laidL w) (fun _ _ _ hh h => h.of_heap hh) own started (by kernel_rfl) Tryz.func6
  (ChangeSpec.witness_at (enc := enc) (C := Tryz.checked) (os := os) (X := fun w _ => laidMetH Tryz.prog laidL w) false (laidWorld os) #[.slice none 0 0,.slice none 0 0] 8 rfl (by kernel_rfl) (by kernel_rfl) (by kernel_rfl) (by kernel_rfl) (by kernel_rfl) (laidWorld_met os _)) ?_
 intro W base args ds gs before hval0 hW _ _ hL _
 have hval : ∀ (j : Nat) t v,Tryz.f6.params[j]? = some t → args[j]? = some v → Value.okWide Tryz.prog W .any base t v := hval0
 have hW' := hW
 obtain ⟨p,q,hA0,hV,rfl,hfz,hnd⟩ := hW
 have hA : DataW.TrodAll enc Tryz.prog W 0 (fun _ => true) true Tryz.f6.params.toList args.toList ds p := hA0
 rw [Tryz.params6] at hA hval
 obtain ⟨v0,vs0,d0,ds0,p0,q0,hargs,rfl,rfl,h0,r0⟩ := trodAll_cons hA
 obtain ⟨v1,vs1,d1,ds1,p1,q1,rfl,rfl,rfl,h1,r1⟩ := trodAll_cons r0
 obtain ⟨rfl,rfl,rfl⟩ := trodAll_nil r1
 obtain rfl : args = #[v0,v1] := by cases args; simp_all
 obtain ⟨rfl,rfl⟩ := trodVars_none hV
 obtain ⟨θ,hG⟩ := globOk pol toldL hL
 obtain ⟨a0,e0,k0⟩ := arg_one (θ := θ) (ty := .slice (.slice (.int .i64))) nofun (by kernel_rfl) (hval 0 23 v0 rfl rfl) h0
 obtain ⟨a1,e1,k1⟩ := arg_one (θ := θ) (ty := .slice (.int .i64)) nofun (by kernel_rfl) (hval 1 28 v1 rfl rfl) h1
 clear hA0 hval0
 obtain ⟨n,H',hN⟩ := run a0 a1 k0 k1
 exact law_contract sOk rfl laidOut hW' (by kernel_rfl) rfl rfl Tryz.underlying4 rfl hG (av := [a0,a1])
  ⟨_,_,rfl,e0,_,_,rfl,e1,rfl⟩ hN
theorem over : Rows.holdCountsRow.holds Tryz.pinned (OpenSpec.ofChange Rows.holdCountsSpec) :=
 OpenClaim.holds_of_wide 6 Tryz.f6 rfl rfl rfl rfl rfl rfl rfl ⟨rfl,rfl,rfl,rfl,rfl⟩ rfl rfl rfl rfl rfl (by kernel_rfl) Tryz.func6 (by kernel_rfl)
  (qb (by kernel_rfl)) (by unfold Func.isWrapper; first | (rw [if_pos (by decide +kernel)]; kernel_rfl) | (rw [if_neg (by decide +kernel)]; exact ⟨rfl,rfl⟩))
  (fun os started H enc _ => lifted os started H enc)
theorem proved : Rows.HoldCountsCardSaid :=
 Claim7.holds_tied_plain_at .later [] _ true _ true
  over (fun _ h => by cases h) (by kernel_rfl) (fun _ h => by cases h) holdCounts_row_tie rfl ⟨rfl,rfl⟩ (by kernel_rfl) rfl
  (fun f fn hf hfn => by
   obtain rfl : f = 6 := Option.some.inj ((show Tryz.prog.funcNamed "syncope/syncopelaw24.HoldCounts" = some 6 by kernel_rfl).symm.trans hf) |>.symm
   obtain rfl : fn = Tryz.f6 := (Option.some.inj (Tryz.func6.symm.trans hfn)).symm
   exact ⟨by kernel_rfl,fun j t ht => by
    rw [Tryz.params6] at ht
    have hall : ((Tryz.f6.params).toList.all fun t => Tryz.prog.wantsStandIn t == false) = true := by kernel_rfl
    rw [Tryz.params6] at hall
    have := List.all_eq_true.1 hall t (qp (i := j) (by rw [Array.getElem?_toList]; exact ht))
    exact beq_iff_eq.1 this⟩)
  (by kernel_rfl)
#print axioms proved
end Go.Proofs.YtcholkmididfmaaGreatDoor.holdCounts

/- Proved: the law Tl2Reads answers true at every input (any clock, any picks of three, what the others move), and leaves its arguments as they were. No condition. The ends of the proof follow the seat's skeleton print. -/
import Derived.Test.YtmjjljngaefpaaaTu
import Derived.WalkKit
import Derived.ProofKit
import Derived.OpenShut
import Derived.KernelRfl
namespace Go.Proofs.Ytmjjljngaefpaaa.tl2Reads
open Go.ChangeShapes Go.WideShapes Go.ChangeAt Go.RowKit Go.Am Go.Sy
open Go.IntKind (i64 u64)
set_option linter.unusedVariables false
theorem own : ownKnob Try.prog.godebug = none := by kernel_rfl
theorem laidOut : laidOutB Try.prog = true := by kernel_rfl
theorem int_row : TyRow cod 0 (.int .i64) fun _ => True := by
 intro cs h
 obtain ⟨a,rfl,_⟩ := h
 exact ⟨a,.cons (.i _ _) .nil,trivial⟩
theorem run (a0 a1 a2 : AVal) (h0 : (Ty.int .i64).Is [a0]) (h1 : (Ty.slice (.int .i64)).Is [a1]) (h2 : (Ty.slice (.int .i64)).Is [a2]) :
 ∃ n H',runA S n 0 3 [a0,a1,a2] [] = some (.bool true,H') := by
 obtain ⟨c,e,_⟩ := h0
 cases e
 obtain ⟨l,e1,_,_⟩ := slice_arg (C := cod) codOk (n := 0) int_row rfl h1
 obtain ⟨w,e2,_,_⟩ := slice_arg (C := cod) codOk (n := 0) int_row rfl h2
 exact rd_run c l w (.cons (.i _ _) (.cons e1 (.cons e2 .nil)))
set_option maxRecDepth 100000 in
theorem lifted (os : Os) (started : os.Started) (H : Type) (enc : TypeId × Value → H) :
 ReturnsInHanded {} Try.checked os 3 .any (Rows.tl2ReadsSpec.pre6 enc Try.prog Try.f3 Rows.tl2ReadsRow.domain false) (Rows.tl2ReadsSpec.post enc Try.prog Try.f3 false true false false) := by
 refine returnsInHanded_of_change (C := Try.checked) own started (by kernel_rfl) Try.func3
  (ChangeSpec.witness6 (enc := enc) (C := Try.checked) false ⟨#[],#[.int .i64 0,.slice none 0 0,.slice none 0 0],[]⟩ 8 (by kernel_rfl) (by kernel_rfl) (by kernel_rfl) (by kernel_rfl)) ?_
 intro W base args ds gs before hval0 hW hcnd _
 have hval : ∀ (j : Nat) t v,Try.f3.params[j]? = some t → args[j]? = some v → Value.okWide Try.prog W .any base t v := hval0
 have hW' := hW
 obtain ⟨p,q,hA0,hV,rfl,hfz,hnd⟩ := hW
 have hA : DataW.TrodAll enc Try.prog W 0 (fun _ => true) true Try.f3.params.toList args.toList ds p := hA0
 rw [Try.params3] at hA hval
 obtain ⟨v0,vs0,d0,ds0,p0,q0,hargs,rfl,rfl,h0,r0⟩ := trodAll_cons hA
 obtain ⟨v1,vs1,d1,ds1,p1,q1,rfl,rfl,rfl,h1,r1⟩ := trodAll_cons r0
 obtain ⟨v2,vs2,d2,ds2,p2,q2,rfl,rfl,rfl,h2,r2⟩ := trodAll_cons r1
 obtain ⟨rfl,rfl,rfl⟩ := trodAll_nil r2
 obtain rfl : args = #[v0,v1,v2] := by cases args; simp_all
 obtain ⟨rfl,rfl⟩ := trodVars_none hV
 obtain ⟨a0,e0,k0⟩ := arg_one (θ := []) (ty := .int .i64) nofun (by kernel_rfl) (hval 0 3 v0 rfl rfl) h0
 obtain ⟨a1,e1,k1⟩ := arg_one (θ := []) (ty := .slice (.int .i64)) nofun (by kernel_rfl) (hval 1 22 v1 rfl rfl) h1
 obtain ⟨a2,e2,k2⟩ := arg_one (θ := []) (ty := .slice (.int .i64)) nofun (by kernel_rfl) (hval 2 22 v2 rfl rfl) h2
 clear hA0 hval0
 obtain ⟨n,H',hN⟩ := run a0 a1 a2 k0 k1 k2
 exact law_contract sOk rfl laidOut hW' (by kernel_rfl) rfl rfl Try.underlying4 rfl (globOk pol toldL W) (av := [a0,a1,a2])
  ⟨_,_,rfl,e0,_,_,rfl,e1,_,_,rfl,e2,rfl⟩ hN
theorem over : Rows.tl2ReadsRow.holds Try.pinned (OpenSpec.ofChange Rows.tl2ReadsSpec) :=
 OpenClaim.holds_of_wide 3 Try.f3 rfl rfl rfl rfl rfl rfl rfl ⟨rfl,rfl,rfl,rfl,rfl⟩ rfl rfl rfl rfl rfl (by kernel_rfl) Try.func3 (by kernel_rfl)
  (of_decide_eq_true (by kernel_rfl)) (by unfold Func.isWrapper; first | (rw [if_pos (by decide +kernel)]; kernel_rfl) | (rw [if_neg (by decide +kernel)]; exact ⟨rfl,rfl⟩))
  (fun os started H enc _ => lifted os started H enc)
theorem proved : Rows.Tl2ReadsSaid :=
 over
#print axioms proved
end Go.Proofs.Ytmjjljngaefpaaa.tl2Reads

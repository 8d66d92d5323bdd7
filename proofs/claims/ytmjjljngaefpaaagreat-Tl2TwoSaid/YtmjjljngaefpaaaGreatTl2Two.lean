/- Proved: the law Tl2Two answers true at every input (any clock, what both read and write, who goes on), and leaves its arguments as they were. No condition. The ends of the proof follow the seat's skeleton print. -/
import Derived.Test.YtmjjljngaefpaaaGreatTe
import Derived.WalkKit
import Derived.ProofKit
import Derived.OpenShut
import Derived.KernelRfl
namespace Go.Proofs.YtmjjljngaefpaaaGreat.tl2Two
open Go.ChangeShapes Go.WideShapes Go.ChangeAt Go.RowKit Go.Am Go.Sy
open Go.IntKind (i64 u64)
set_option linter.unusedVariables false
theorem own : ownKnob Tryz.prog.godebug = none := by kernel_rfl
theorem laidOut : laidOutB Tryz.prog = true := by kernel_rfl
theorem op_row : TyRow cod 2 (.row [.int .i64,.int .i64,.int .i64]) fun _ => True := by
 intro cs h
 obtain ⟨_,_,rfl,⟨a,rfl,_⟩,_,_,rfl,⟨b,rfl,_⟩,_,_,rfl,⟨c,rfl,_⟩,rfl⟩ := h
 exact ⟨⟨a,b,c⟩,.cons (.i _ _) (.cons (.i _ _) (.cons (.i _ _) .nil)),trivial⟩
theorem bool_row : TyRow cod 1 .bool fun _ => True := by
 intro cs h
 obtain ⟨a,rfl⟩ := h
 exact ⟨a,.cons (.b _) .nil,trivial⟩
theorem run (a0 a1 a2 a3 : AVal) (h0 : (Ty.int .i64).Is [a0]) (h1 : (Ty.slice (.row [.int .i64,.int .i64,.int .i64])).Is [a1]) (h2 : (Ty.slice (.row [.int .i64,.int .i64,.int .i64])).Is [a2]) (h3 : (Ty.slice .bool).Is [a3]) :
 ∃ n H',runA S n 0 3 [a0,a1,a2,a3] [] = some (.bool true,H') := by
 obtain ⟨c,e,_⟩ := h0
 cases e
 obtain ⟨a,e1,_,_⟩ := slice_arg (C := cod) codOk (n := 2) op_row rfl h1
 obtain ⟨b,e2,_,_⟩ := slice_arg (C := cod) codOk (n := 2) op_row rfl h2
 obtain ⟨l,e3,_,_⟩ := slice_arg (C := cod) codOk (n := 1) bool_row rfl h3
 exact tw_run c a b l (.cons (.i _ _) (.cons e1 (.cons e2 (.cons e3 .nil))))
set_option maxRecDepth 100000 in
theorem lifted (os : Os) (started : os.Started) (H : Type) (enc : TypeId × Value → H) :
 ReturnsInHanded {} Tryz.checked os 3 .any (Rows.tl2TwoSpec.pre6 enc Tryz.prog Tryz.f3 Rows.tl2TwoRow.domain false) (Rows.tl2TwoSpec.post enc Tryz.prog Tryz.f3 false true false false) := by
 refine returnsInHanded_of_change (C := Tryz.checked) own started (by kernel_rfl) Tryz.func3
  (ChangeSpec.witness6 (enc := enc) (C := Tryz.checked) false ⟨#[],#[.int .i64 0,.slice none 0 0,.slice none 0 0,.slice none 0 0],[]⟩ 8 (by kernel_rfl) (by kernel_rfl) (by kernel_rfl) (by kernel_rfl)) ?_
 intro W base args ds gs before hval0 hW hcnd _
 have hval : ∀ (j : Nat) t v,Tryz.f3.params[j]? = some t → args[j]? = some v → Value.okWide Tryz.prog W .any base t v := hval0
 have hW' := hW
 obtain ⟨p,q,hA0,hV,rfl,hfz,hnd⟩ := hW
 have hA : DataW.TrodAll enc Tryz.prog W 0 (fun _ => true) true Tryz.f3.params.toList args.toList ds p := hA0
 rw [Tryz.params3] at hA hval
 obtain ⟨v0,vs0,d0,ds0,p0,q0,hargs,rfl,rfl,h0,r0⟩ := trodAll_cons hA
 obtain ⟨v1,vs1,d1,ds1,p1,q1,rfl,rfl,rfl,h1,r1⟩ := trodAll_cons r0
 obtain ⟨v2,vs2,d2,ds2,p2,q2,rfl,rfl,rfl,h2,r2⟩ := trodAll_cons r1
 obtain ⟨v3,vs3,d3,ds3,p3,q3,rfl,rfl,rfl,h3,r3⟩ := trodAll_cons r2
 obtain ⟨rfl,rfl,rfl⟩ := trodAll_nil r3
 obtain rfl : args = #[v0,v1,v2,v3] := by cases args; simp_all
 obtain ⟨rfl,rfl⟩ := trodVars_none hV
 obtain ⟨a0,e0,k0⟩ := arg_one (θ := []) (ty := .int .i64) nofun (by kernel_rfl) (hval 0 3 v0 rfl rfl) h0
 obtain ⟨a1,e1,k1⟩ := arg_one (θ := []) (ty := .slice (.row [.int .i64,.int .i64,.int .i64])) nofun (by kernel_rfl) (hval 1 22 v1 rfl rfl) h1
 obtain ⟨a2,e2,k2⟩ := arg_one (θ := []) (ty := .slice (.row [.int .i64,.int .i64,.int .i64])) nofun (by kernel_rfl) (hval 2 22 v2 rfl rfl) h2
 obtain ⟨a3,e3,k3⟩ := arg_one (θ := []) (ty := .slice .bool) nofun (by kernel_rfl) (hval 3 23 v3 rfl rfl) h3
 clear hA0 hval0
 obtain ⟨n,H',hN⟩ := run a0 a1 a2 a3 k0 k1 k2 k3
 exact law_contract sOk rfl laidOut hW' (by kernel_rfl) rfl rfl Tryz.underlying4 rfl (globOk pol toldL litL W) (av := [a0,a1,a2,a3])
  ⟨_,_,rfl,e0,_,_,rfl,e1,_,_,rfl,e2,_,_,rfl,e3,rfl⟩ hN
theorem over : Rows.tl2TwoRow.holds Tryz.pinned (OpenSpec.ofChange Rows.tl2TwoSpec) :=
 OpenClaim.holds_of_wide 3 Tryz.f3 rfl rfl rfl rfl rfl rfl rfl ⟨rfl,rfl,rfl,rfl,rfl⟩ rfl rfl rfl rfl rfl (by kernel_rfl) Tryz.func3 (by kernel_rfl)
  (qb (by kernel_rfl)) (by unfold Func.isWrapper; first | (rw [if_pos (by decide +kernel)]; kernel_rfl) | (rw [if_neg (by decide +kernel)]; exact ⟨rfl,rfl⟩))
  (fun os started H enc _ => lifted os started H enc)
theorem proved : Rows.Tl2TwoSaid :=
 over
#print axioms proved
end Go.Proofs.YtmjjljngaefpaaaGreat.tl2Two

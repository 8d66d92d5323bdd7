/- Proved: the law GuardReaders answers true at every input (whether the one lock is held to read, how the other one opened it, when), and leaves its arguments as they were. No condition. The shell began as the seat's proof-skeleton's print. -/
import Derived.Test.YtomlcdalhihnaaaRows
import Derived.WalkKit
import Derived.ProofKit
import Derived.OpenShut
import Derived.KernelRfl
import Derived.Test.YtomlcdalhihnaaaAmMono
namespace Go.Proofs.Ytomlcdalhihnaaa.guardReaders
open Go.ChangeShapes Go.WideShapes Go.ChangeAt Go.RowKit Go.Am
set_option linter.unusedVariables false

theorem own : ownKnob Try.prog.godebug = none := by kernel_rfl

/-- What the idealised run stands on: the program; no package variable, no hook, no method. -/
noncomputable def St : AStat := { P := Try.prog, glob := fun _ => none, pol := fun _ => .keep, hook := fun _ => none, meth := fun _ _ => none }

theorem noNum_all : (Try.prog.funcs.toList.all fun fn => !(fn.name == "runtime.NumGoroutine")) = true := by kernel_rfl

theorem stOk : StatOk St where
  noNum := fun f fn h => by
    have h1 := List.all_eq_true.1 noNum_all fn (List.mem_of_getElem? (i := f) (by rw [Array.getElem?_toList]; exact h))
    simpa using h1
  meth := fun t name g h => by cases h
  hook := fun f hk h => by cases h
  mixed := by kernel_rfl

theorem globOk (W : World) : GlobOk St (cx0 W) := fun g cs h => by cases h

noncomputable def body3 : Code := Try.f3.body.getD .skip

/-- Behind the first pieces: what 'when' is, in one cell. -/
theorem at29 (h r : Bool) (n : Int) : ((headA St 1000 12 3 Try.f3 body3 0 [.bool h, .bool r, .int .i64 n] []).bind fun s => s.2.1[29]?) = some (.int .u64 (Int.tmod (IntKind.wrap .u64 n) 3)) := by
  cases h <;> cases r <;> kernel_rfl
theorem end0 (h r : Bool) (n : Int) : ((headA St 1000 12 3 Try.f3 body3 0 [.bool h, .bool r, .int .i64 n] []).bind fun s => (tailA St 10000 3 Try.f3 0 [] s.1 (s.2.1.set 29 (.int .u64 0)) s.2.2).map (·.1)) = some (.bool true) := by
  cases h <;> cases r <;> kernel_rfl
theorem end1 (h r : Bool) (n : Int) : ((headA St 1000 12 3 Try.f3 body3 0 [.bool h, .bool r, .int .i64 n] []).bind fun s => (tailA St 10000 3 Try.f3 0 [] s.1 (s.2.1.set 29 (.int .u64 1)) s.2.2).map (·.1)) = some (.bool true) := by
  cases h <;> cases r <;> kernel_rfl
theorem end2 (h r : Bool) (n : Int) : ((headA St 1000 12 3 Try.f3 body3 0 [.bool h, .bool r, .int .i64 n] []).bind fun s => (tailA St 10000 3 Try.f3 0 [] s.1 (s.2.1.set 29 (.int .u64 2)) s.2.2).map (·.1)) = some (.bool true) := by
  cases h <;> cases r <;> kernel_rfl

theorem three (n : Int) : Int.tmod (IntKind.wrap .u64 n) 3 = 0 ∨ Int.tmod (IntKind.wrap .u64 n) 3 = 1 ∨ Int.tmod (IntKind.wrap .u64 n) 3 = 2 := by
  have h0 : 0 ≤ IntKind.wrap .u64 n := by simp [IntKind.wrap, IntKind.signed, IntKind.bits]; omega
  have h1 := Int.tmod_nonneg 3 h0
  have h2 := Int.tmod_lt_of_pos (IntKind.wrap .u64 n) (b := 3) (by decide)
  omega

theorem run (h r : Bool) (n : Int) : ∃ H', CallRuns St 0 3 [.bool h, .bool r, .int .i64 n] [] (.bool true, H') := by
  rcases three n with e | e | e
  · exact CallRuns.cut Try.func3 rfl rfl 1000 12 10000 29 (at29 h r n) (by rw [e]) (end0 h r n)
  · exact CallRuns.cut Try.func3 rfl rfl 1000 12 10000 29 (at29 h r n) (by rw [e]) (end1 h r n)
  · exact CallRuns.cut Try.func3 rfl rfl 1000 12 10000 29 (at29 h r n) (by rw [e]) (end2 h r n)

theorem laidOut : laidOutB Try.prog = true := by kernel_rfl

/-! ### THE ROW's STEP: WRITTEN OUT: LEAVE IT -/
set_option maxRecDepth 100000 in
theorem lifted (os : Os) (started : os.Started) (H : Type) (enc : TypeId × Value → H) :
    ReturnsInHanded {} Try.checked os 3 .any (Rows.guardReadersSpec.pre6 enc Try.prog Try.f3 Rows.guardReadersRow.domain false) (Rows.guardReadersSpec.post enc Try.prog Try.f3 false true false false) := by
  refine returnsInHanded_of_change (C := Try.checked) own started (by kernel_rfl) Try.func3
    (ChangeSpec.witness6 (enc := enc) (C := Try.checked) false ⟨#[], #[.bool false, .bool false, .int .i64 0], []⟩ 8 (by kernel_rfl) (by kernel_rfl) (by kernel_rfl) (by kernel_rfl)) ?_
  intro W base args ds gs before hval0 hW hcnd _
  have hval : ∀ (j : Nat) t v, Try.f3.params[j]? = some t → args[j]? = some v → Value.okWide Try.prog W .any base t v := hval0
  have hW' := hW
  obtain ⟨p, q, hA0, hV, rfl, hfz, hnd⟩ := hW
  have hA : DataW.TrodAll enc Try.prog W 0 (fun _ => true) true Try.f3.params.toList args.toList ds p := hA0
  rw [Try.params3] at hA hval
  obtain ⟨v0, vs0, d0, ds0, p0, q0, hargs, rfl, rfl, h0, r0⟩ := trodAll_cons hA
  obtain ⟨v1, vs1, d1, ds1, p1, q1, rfl, rfl, rfl, h1, r1⟩ := trodAll_cons r0
  obtain ⟨v2, vs2, d2, ds2, p2, q2, rfl, rfl, rfl, h2, r2⟩ := trodAll_cons r1
  obtain ⟨rfl, rfl, rfl⟩ := trodAll_nil r2
  obtain rfl : args = #[v0, v1, v2] := by cases args; simp_all
  obtain ⟨rfl, rfl⟩ := trodVars_none hV
  obtain ⟨a0, rfl, rfl, rfl⟩ := open_bool Try.underlying4 (hval 0 4 v0 rfl rfl) h0
  obtain ⟨a1, rfl, rfl, rfl⟩ := open_bool Try.underlying4 (hval 1 4 v1 rfl rfl) h1
  obtain ⟨a2, rfl, rfl, rfl, w2⟩ := open_int Try.underlying3 (hval 2 3 v2 rfl rfl) h2
  clear hA0 hval0
  obtain ⟨H', N, hN⟩ := run a0 a1 a2
  exact law_contract stOk rfl laidOut hW' (by kernel_rfl) rfl rfl Try.underlying4 rfl (globOk W) (av := [.bool a0, .bool a1, .int .i64 a2])
    ⟨_, _, rfl, rfl, _, _, rfl, rfl, _, _, rfl, rfl, rfl⟩ hN

theorem over : Rows.guardReadersRow.holds Try.pinned (OpenSpec.ofChange Rows.guardReadersSpec) :=
  OpenClaim.holds_of_wide 3 Try.f3 rfl rfl rfl rfl rfl rfl rfl ⟨rfl, rfl, rfl, rfl, rfl⟩ rfl rfl rfl rfl rfl (by kernel_rfl) Try.func3 (by kernel_rfl)
    (of_decide_eq_true (by kernel_rfl)) (by unfold Func.isWrapper; first | (rw [if_pos (by decide +kernel)]; kernel_rfl) | (rw [if_neg (by decide +kernel)]; exact ⟨rfl, rfl⟩))
    (fun os started H enc _ => lifted os started H enc)

/-- ████ THE STATEMENT ████ -/
theorem proved : Rows.GuardReadersSaid :=
  over
#print axioms proved
end Go.Proofs.Ytomlcdalhihnaaa.guardReaders

/- Proved: the law CheckOrder answers true at every input (which two or three locks are opened within one another, and side by side), and leaves its arguments as they were. No condition beside the laid variables that the card ties to the program's text. -/
import Derived.Test.YtoniaeobbcpgcaaDoorOrderTail0
import Derived.Test.YtoniaeobbcpgcaaDoorOrderTail1
import Derived.Test.YtoniaeobbcpgcaaDoorOrderTail2
import Derived.Test.YtoniaeobbcpgcaaDoorTop
import Derived.Test.YtoniaeobbcpgcaaDoorCards
import Derived.Test.YtoniaeobbcpgcaaDoorTie
namespace Go.Proofs.YtoniaeobbcpgcaaDoor.checkOrder
open Go.ChangeShapes Go.WideShapes Go.ChangeAt Go.RowKit Go.Am
set_option linter.unusedVariables false

theorem run (a b d : Int) : ∃ n H', runA S n 0 3 [.int .i64 a, .int .i64 b, .int .i64 d] [] = some (.bool true, H') := by
  have fin : ∀ p q r : Int, pk a = p → pk b = q → pk d = r → tail a b d p q r = some (.bool true) → ∃ n H', runA S n 0 3 [.int .i64 a, .int .i64 b, .int .i64 d] [] = some (.bool true, H') := by
    intro p q r ea eb ed ht
    exact run_cut (hookSim pol toldL) Tryd.func3 rfl rfl rfl 5000 2 5000 [] [] [(0, some (.cells [.int .i64 (pk a), .int .i64 (pk b), .int .i64 (pk d)]))] [(0, some (.cells [.int .i64 p, .int .i64 q, .int .i64 r]))] rfl (by rw [ea, eb, ed]) (look a b d) ht
  rcases pk3 a with ea | ea | ea <;> rcases pk3 b with eb | eb | eb <;> rcases pk3 d with ed | ed | ed
  · exact fin 0 0 0 ea eb ed (end000 a b d)
  · exact fin 0 0 1 ea eb ed (end001 a b d)
  · exact fin 0 0 2 ea eb ed (end002 a b d)
  · exact fin 0 1 0 ea eb ed (end010 a b d)
  · exact fin 0 1 1 ea eb ed (end011 a b d)
  · exact fin 0 1 2 ea eb ed (end012 a b d)
  · exact fin 0 2 0 ea eb ed (end020 a b d)
  · exact fin 0 2 1 ea eb ed (end021 a b d)
  · exact fin 0 2 2 ea eb ed (end022 a b d)
  · exact fin 1 0 0 ea eb ed (end100 a b d)
  · exact fin 1 0 1 ea eb ed (end101 a b d)
  · exact fin 1 0 2 ea eb ed (end102 a b d)
  · exact fin 1 1 0 ea eb ed (end110 a b d)
  · exact fin 1 1 1 ea eb ed (end111 a b d)
  · exact fin 1 1 2 ea eb ed (end112 a b d)
  · exact fin 1 2 0 ea eb ed (end120 a b d)
  · exact fin 1 2 1 ea eb ed (end121 a b d)
  · exact fin 1 2 2 ea eb ed (end122 a b d)
  · exact fin 2 0 0 ea eb ed (end200 a b d)
  · exact fin 2 0 1 ea eb ed (end201 a b d)
  · exact fin 2 0 2 ea eb ed (end202 a b d)
  · exact fin 2 1 0 ea eb ed (end210 a b d)
  · exact fin 2 1 1 ea eb ed (end211 a b d)
  · exact fin 2 1 2 ea eb ed (end212 a b d)
  · exact fin 2 2 0 ea eb ed (end220 a b d)
  · exact fin 2 2 1 ea eb ed (end221 a b d)
  · exact fin 2 2 2 ea eb ed (end222 a b d)

set_option maxRecDepth 100000 in
theorem lifted (os : Os) (started : os.Started) (H : Type) (enc : TypeId × Value → H) :
    ReturnsInHanded {} Tryd.checked os 3 .any (fun w args => (Rows.checkOrderSpec.pre enc Tryd.prog Tryd.f3 [] false w args ∧ laidMetH Tryd.prog laidL w) ∧ sizedMet enc Tryd.prog Tryd.f3 (OpenSpec.ofChange Rows.checkOrderSpec) false w args)
      (Rows.checkOrderSpec.post enc Tryd.prog Tryd.f3 false true false false) := by
  refine returnsInHanded_of_change_and (C := Tryd.checked) (X := fun w _ => laidMetH Tryd.prog laidL w) (fun _ _ _ hh h => h.of_heap hh) own started (by kernel_rfl) Tryd.func3
    (ChangeSpec.witness_at (enc := enc) (C := Tryd.checked) (os := os) (X := fun w _ => laidMetH Tryd.prog laidL w) false (laidWorld os) #[.int .i64 0, .int .i64 0, .int .i64 0] 8 rfl (by kernel_rfl) (by kernel_rfl) (by kernel_rfl) (by kernel_rfl) (by kernel_rfl) (laidWorld_met os _)) ?_
  intro W base args ds gs before hval0 hW _ _ hL _
  have hval : ∀ (j : Nat) t v, Tryd.f3.params[j]? = some t → args[j]? = some v → Value.okWide Tryd.prog W .any base t v := hval0
  have hW' := hW
  obtain ⟨p, q, hA0, hV, rfl, hfz, hnd⟩ := hW
  have hA : DataW.TrodAll enc Tryd.prog W 0 (fun _ => true) true Tryd.f3.params.toList args.toList ds p := hA0
  rw [Tryd.params3] at hA hval
  obtain ⟨v0, vs0, d0, ds0, p0, q0, hargs, rfl, rfl, h0, r0⟩ := trodAll_cons hA
  obtain ⟨v1, vs1, d1, ds1, p1, q1, rfl, rfl, rfl, h1, r1⟩ := trodAll_cons r0
  obtain ⟨v2, vs2, d2, ds2, p2, q2, rfl, rfl, rfl, h2, r2⟩ := trodAll_cons r1
  obtain ⟨rfl, rfl, rfl⟩ := trodAll_nil r2
  obtain rfl : args = #[v0, v1, v2] := by cases args; simp_all
  obtain ⟨rfl, rfl⟩ := trodVars_none hV
  obtain ⟨a0, rfl, rfl, rfl, w0⟩ := open_int Tryd.underlying3 (hval 0 3 v0 rfl rfl) h0
  obtain ⟨a1, rfl, rfl, rfl, w1⟩ := open_int Tryd.underlying3 (hval 1 3 v1 rfl rfl) h1
  obtain ⟨a2, rfl, rfl, rfl, w2⟩ := open_int Tryd.underlying3 (hval 2 3 v2 rfl rfl) h2
  clear hA0 hval0
  obtain ⟨n, H', hN⟩ := run a0 a1 a2
  obtain ⟨θ, hG⟩ := globOk pol toldL hL
  exact law_contract sOk rfl laidOut hW' (by kernel_rfl) rfl rfl Tryd.underlying4 rfl hG (av := [.int .i64 a0, .int .i64 a1, .int .i64 a2])
    ⟨_, _, rfl, rfl, _, _, rfl, rfl, _, _, rfl, rfl, rfl⟩ hN

theorem over : Rows.checkOrderRow.holds Tryd.pinned (OpenSpec.ofChange Rows.checkOrderSpec) :=
  OpenClaim.holds_of_wide 3 Tryd.f3 rfl rfl rfl rfl rfl rfl rfl ⟨rfl, rfl, rfl, rfl, rfl⟩ rfl rfl rfl rfl rfl (by kernel_rfl) Tryd.func3 (by kernel_rfl)
    (of_decide_eq_true (by kernel_rfl)) (by unfold Func.isWrapper; first | (rw [if_pos (by decide +kernel)]; kernel_rfl) | (rw [if_neg (by decide +kernel)]; exact ⟨rfl, rfl⟩))
    (fun os started H enc _ => lifted os started H enc)

/-- ████ THE STATEMENT ████ -/
theorem proved : Rows.CheckOrderCardSaid :=
  Claim7.holds_tied_plain_at .later [] _ true _ true
    over (fun _ h => by cases h) (by kernel_rfl) (fun _ h => by cases h) checkOrder_row_tie rfl ⟨rfl, rfl⟩ (by kernel_rfl) rfl
    (fun f fn hf hfn => by
      obtain rfl : f = 3 := Option.some.inj ((show Tryd.prog.funcNamed "syncope/syncopelaw6.CheckOrder" = some 3 by kernel_rfl).symm.trans hf) |>.symm
      obtain rfl : fn = Tryd.f3 := (Option.some.inj (Tryd.func3.symm.trans hfn)).symm
      exact ⟨by kernel_rfl, fun j t ht => by
        rw [Tryd.params3] at ht
        have h3 : t = 3 := by
          rcases j with _ | _ | _ | j
          · simpa using ht.symm
          · simpa using ht.symm
          · simpa using ht.symm
          · simp at ht
        subst h3
        exact (show Tryd.prog.wantsStandIn 3 = false by kernel_rfl)⟩)
    (by kernel_rfl)
#print axioms proved
end Go.Proofs.YtoniaeobbcpgcaaDoor.checkOrder

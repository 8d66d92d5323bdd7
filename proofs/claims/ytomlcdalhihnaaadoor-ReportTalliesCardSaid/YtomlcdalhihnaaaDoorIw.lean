/- strconv.Itoa: its contracts are paid. -/
import Derived.Test.YtomlcdalhihnaaaDoorIv
namespace Go.Proofs.YtomlcdalhihnaaaDoor
open Go.RowKit Go.Am Go.Sy
set_option linter.unusedVariables false

theorem it45 (n : Int) : Go.Sy.Tree.holds (entryX F (lookC n0) 200 Tryd.f45 b45 ⟨[], .s (decS n), []⟩ [.i .i64 n]) = ( ∃ (y : Unit), constA (Value.int IntKind.i64 (10 : Int)) = AVal.int IntKind.i64 (10 : Int) ∧ fiD.pre
 (n, y, ()) ∧ decS n = decS n ∧ True) := by kernel_rfl
theorem it40 (n : Int) : Go.Sy.Tree.holds (entryX F (lookC n1) 200 Tryd.f40 b40 ⟨[], .s (decS n), []⟩ [.i .i64 n]) = ( itoaD.pre (n, ()) ∧ decS n = decS n ∧ True) := by kernel_rfl
theorem it45_ok (n : Int) (h : inI n) : Paid (entryX F (lookC n0) 200 Tryd.f45 b45 ⟨[], .s (decS n), []⟩ [.i .i64 n]) := by
  refine ⟨?_⟩
  rw [it45]
  exact ⟨(), rfl, h, rfl, trivial⟩
theorem it40_ok (n : Int) (h : inI n) : Paid (entryX F (lookC n1) 200 Tryd.f40 b40 ⟨[], .s (decS n), []⟩ [.i .i64 n]) := by
  refine ⟨?_⟩
  rw [it40]
  exact ⟨h, rfl, trivial⟩
theorem it45Ok : CtrOk1 F.S 45 (mkCtr itoaD) :=
  mkCtr_paid (fn := Tryd.f45) (body := b45) (ctr := lookC n0) codOk noExt hookLow (lookC_ok fun p h => by
    simp only [n0, List.mem_cons, List.not_mem_nil, or_false] at h
    subst h
    exact fiOk) Tryd.func45 rfl rfl rfl itoaD 200 (fun _ => []) (show 1 ≤ 5 by decide) (show 5 ≤ 512 by decide) (by kernel_rfl) (fun _ _ => ⟨rfl, rfl⟩)
    (fun x hp => it45_ok x.1 hp) (fun x hp p hm => by cases hm)
theorem it40Ok : CtrOk1 F.S 40 (mkCtr itoaD) :=
  mkCtr_paid (fn := Tryd.f40) (body := b40) (ctr := lookC n1) codOk noExt hookLow (lookC_ok fun p h => by
    simp only [n1, List.mem_cons, List.not_mem_nil, or_false] at h
    subst h
    exact it45Ok) Tryd.func40 rfl rfl rfl itoaD 200 (fun _ => []) (show 1 ≤ 5 by decide) (show 5 ≤ 512 by decide) (by kernel_rfl) (fun _ _ => ⟨rfl, rfl⟩)
    (fun x hp => it40_ok x.1 hp) (fun x hp p hm => by cases hm)

theorem decS_len (n : Int) : (decS n).length ≤ 21 := by
  have h := mag_digits n
  have h2 : (decN (mag n)).length ≤ 20 := by
    unfold decN
    split
    · simp
    · exact h
  unfold decS
  split
  · rw [List.length_cons]; omega
  · omega
end Go.Proofs.YtomlcdalhihnaaaDoor

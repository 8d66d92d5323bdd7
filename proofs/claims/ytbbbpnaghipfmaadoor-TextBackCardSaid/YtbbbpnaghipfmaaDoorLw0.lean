/- An instruction's line, on both sides: what is answered. -/
import Derived.Test.YtbbbpnaghipfmaaDoorDp
import Derived.Test.YtbbbpnaghipfmaaDoorMb
namespace Go.Proofs.YtbbbpnaghipfmaaDoor
open Go.RowKit Go.Am Go.Sy
set_option linter.unusedVariables false
variable {Z : Xs}

/-- A call that turns nothing, by its hook. -/
theorem quiet_out {S : AStat} {f : FuncId} {hk : Nat → List AVal → Heap → Option (AVal × Heap)} (hk0 : S.hook f = some hk) {E : Env} {lo wlo : Nat} {h : SH cod} {H : Heap} {K : SV cod.T → SH cod → Go.Sy.Tree} {av : List AVal} {v : AVal} {sv : SV cod.T}
    (h1 : hk lo av H = some (v, H)) (hS : SimH E lo wlo h H) (hv : Er E sv v) (hh : (K sv h).holds) :
    Out E lo wlo h H (fun v H' => ∃ n, callA S (execA S n) lo f av H = some (v, H')) K :=
  ⟨v, H, sv, h, E, ⟨0, by simp only [callA, hk0]; exact h1⟩, LeN.refl _ _, Nat.le_refl _, hS, Nat.le_refl _, hv, hh⟩
theorem hook7 : (F Z).S.hook 7 = some (litFun toldL 7) := by kernel_rfl
theorem hook21 : (F Z).S.hook 21 = some (itoaHook 21) := by kernel_rfl
theorem hook22 : (F Z).S.hook 22 = some (fmtHook 22) := by kernel_rfl

/-! ### Numbers -/
def okI (n : Int) : Prop := -9223372036854775808 ≤ n ∧ n ≤ 9223372036854775807
noncomputable def itoaCtr : Ctr cod := fun _ args h K => match args with
  | [x] => match intOf x with
    | some (k, n) => if k = .i64 then .need (okI n) (K (.s (decS n)) h) else .stuck "itoa: kind"
    | none => .stuck "itoa: what"
  | _ => .stuck "itoa"
noncomputable def fmtCtr : Ctr cod := fun _ args h K => match args with
  | [x, y] => match intOf x, intOf y with
    | some (k, n), some (k', m) => if k = .i64 ∧ k' = .i64 ∧ m = 10 then .need (okI n) (K (.s (decS n)) h) else .stuck "fmt: kind"
    | _, _ => .stuck "fmt: what"
  | _ => .stuck "fmt"
theorem itoaOk : CtrOk1 (F Z).S 21 itoaCtr := by
  intro E lo wlo args h H K av hh hS hA
  unfold itoaCtr at hh
  split at hh
  · rename_i x
    obtain ⟨a0, as1, rfl, h1, hA1⟩ := hA.inv_cons
    obtain rfl := hA1.inv_nil
    split at hh
    · rename_i k n e1
      obtain rfl := intOf_ok h1 e1
      split at hh
      · rename_i e
        subst e
        obtain ⟨hk, hh⟩ := hh
        refine quiet_out hook21 (v := .str (decS n)) ?_ hS (.s _) hh
        simp only [itoaHook, hk.1, hk.2, and_self, if_true, decS_is hk.1 hk.2]
      · exact (stuck_no hh).elim
    · exact (stuck_no hh).elim
  · exact (stuck_no hh).elim
theorem fmtOk : CtrOk1 (F Z).S 22 fmtCtr := by
  intro E lo wlo args h H K av hh hS hA
  unfold fmtCtr at hh
  split at hh
  · rename_i x y
    obtain ⟨a0, as1, rfl, h1, hA1⟩ := hA.inv_cons
    obtain ⟨a1, as2, rfl, h2, hA2⟩ := hA1.inv_cons
    obtain rfl := hA2.inv_nil
    split at hh
    · rename_i k n k' m e1 e2
      obtain rfl := intOf_ok h1 e1
      obtain rfl := intOf_ok h2 e2
      split at hh
      · rename_i e
        obtain ⟨rfl, rfl, rfl⟩ := e
        obtain ⟨hk, hh⟩ := hh
        refine quiet_out hook22 (v := .str (decS n)) ?_ hS (.s _) hh
        simp only [fmtHook, hk.1, hk.2, and_self, if_true, decS_is hk.1 hk.2]
      · exact (stuck_no hh).elim
    · exact (stuck_no hh).elim
  · exact (stuck_no hh).elim

/-! ### Words -/
noncomputable def wordsCtr : Ctr cod := fun _ args h K => match args with
  | [] => K (.tl (T := T) 3 wordsL) h
  | _ => .stuck "words"
theorem strs_er {E : Env} (l : List (List UInt8)) (ex : Bool) : Er (C := cod) E (.tl (T := T) 3 l) (.list 1 (l.map fun s => [.str s]) ex) := by
  refine .tlL (n := 3) rfl (List.length_map _) ?_ ?_
  · intro i r hr
    rw [List.getElem?_map, Option.map_eq_some_iff] at hr
    obtain ⟨s, _, rfl⟩ := hr
    rfl
  · intro i y r j x a h1 h2 h3 h4
    replace h1 : (l : List (List UInt8))[i]? = some y := h1
    rw [List.getElem?_map, h1] at h2
    obtain rfl := (Option.some.inj h2 : [AVal.str y] = r)
    rcases j with _ | j
    · cases h3; cases h4; exact .s _
    · simp at h4
def wordCells : List AVal := wordsL.map .str
def wdD : CtrD cod where
  pats := []
  pre := fun x => True
  res := fun x => .sl 1 0 0 23 23 false
  objs := fun x => [.cells (wordCells.map .a)]
noncomputable def b25 : Code := Tryd.f25.body.getD .skip
end Go.Proofs.YtbbbpnaghipfmaaDoor

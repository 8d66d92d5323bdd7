/- An instruction's line, on both sides: what is answered. -/
import Derived.Test.YtbbbpnaghipfmaaGreatDoorDp
import Derived.Test.YtbbbpnaghipfmaaGreatDoorMb
namespace Go.Proofs.YtbbbpnaghipfmaaGreatDoor
open Go.RowKit Go.Am Go.Sy
set_option linter.unusedVariables false

/-- A call that turns nothing, by its hook. -/
theorem quiet_out {S : AStat} {f : FuncId} {hk : Nat → List AVal → Heap → Option (AVal × Heap)} (hk0 : S.hook f = some hk) {E : Env} {lo wlo : Nat} {h : SH cod} {H : Heap} {K : SV cod.T → SH cod → Go.Sy.Tree} {av : List AVal} {v : AVal} {sv : SV cod.T}
    (h1 : hk lo av H = some (v, H)) (hS : SimH E lo wlo h H) (hv : Er E sv v) (hh : (K sv h).holds) :
    Out E lo wlo h H (fun v H' => ∃ n, callA S (execA S n) lo f av H = some (v, H')) K :=
  ⟨v, H, sv, h, E, ⟨0, by simp only [callA, hk0]; exact h1⟩, LeN.refl _ _, Nat.le_refl _, hS, Nat.le_refl _, hv, hh⟩
theorem hook7 : F.S.hook 4 = some (litFun toldL 4) := by kernel_rfl
/-! ### Words -/
noncomputable def wordsCtr : Ctr cod := fun _ args h K => match args with
  | [] => K (.tl (T := T) 3 wordsL) h
  | _ => .stuck "words"
theorem strs_er {E : Env} (l : List (List UInt8)) (ex : Bool) : Er (C := cod) E (.tl (T := T) 3 l) (.list 1 (l.map fun s => [.str s]) ex) := by
  refine .tlL (n := 3) rfl (List.length_map _) ?_ ?_
  · intro i r hr
    rw [List.getElem?_map, Option.map_eq_some_iff] at hr
    obtain ⟨s, _, rfl⟩ := hr
    rfl
  · intro i y r j x a h1 h2 h3 h4
    replace h1 : (l : List (List UInt8))[i]? = some y := h1
    rw [List.getElem?_map, h1] at h2
    obtain rfl := (Option.some.inj h2 : [AVal.str y] = r)
    rcases j with _ | j
    · cases h3; cases h4; exact .s _
    · simp at h4
def wordCells : List AVal := wordsL.map .str
def wdD : CtrD cod where
  pats := []
  pre := fun x => True
  res := fun x => .sl 1 0 0 23 23 false
  objs := fun x => [.cells (wordCells.map .a)]
noncomputable def b11 : Code := Tryz.f11.body.getD .skip
end Go.Proofs.YtbbbpnaghipfmaaGreatDoor

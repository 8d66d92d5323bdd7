/- hold.Text over rows: its contract, paid by its hook. -/
import Derived.Test.YtlninpcoolakbaaGreatDoorNu
namespace Go.Proofs.YtlninpcoolakbaaGreatDoor
open Go.RowKit Go.Am Go.Sy
set_option linter.unusedVariables false
def oc (o : Out) : Outc := ⟨o.logs, o.words, o.owners, o.status, o.queues⟩
theorem lt_of_get {α : Type} {l : List α} {i : Nat} {x : α} (h : l[i]? = some x) : i < l.length := by
  rcases Nat.lt_or_ge i l.length with h1 | h1
  · exact h1
  · rw [List.getElem?_eq_none h1] at h; cases h
theorem tl_rows {E : Env} {lo wlo : Nat} {h : SH cod} {H : Heap} (hS : SimH E lo wlo h H) {n : Nat} (hn : cod.sz n = 1) {l : List (cod.T n)} {a : AVal} (ha : Er (C := cod) E (.tl n l) a) :
    ∃ rows, rowsN (fun b => H[b]?) a = some rows ∧ rows.length = l.length ∧ ∀ (i : Nat) (r : List AVal) (y : cod.T n), rows[i]? = some r → l[i]? = some y → ∃ v, r = [v] ∧ ∀ x, (cod.enc n y)[0]? = some x → Er (C := cod) E x v := by
  cases ha with
  | tlN => exact ⟨[], rfl, rfl, fun i r y h => by simp at h⟩
  | tlL hz hl hr hc =>
    rename_i z rows ex
    refine ⟨rows, by rw [hz, hn]; rfl, hl, fun i r y h1 h2 => ?_⟩
    have h3 := hr i r h1
    rw [hn] at h3
    obtain ⟨v, rfl⟩ : ∃ v, r = [v] := by
      cases r with
      | nil => cases h3
      | cons v r => cases r with
        | nil => exact ⟨v, rfl⟩
        | cons w r => simp at h3
    exact ⟨v, rfl, fun x hx => hc i y _ 0 x v h2 h1 hx rfl⟩
  | tlS hz hl hF hle hcap hc =>
    rename_i z b off len cap cs0 ex
    rw [hn] at hz hle
    subst hz
    subst hl
    have hb := (hS.fr b cs0 hF).1
    refine ⟨chunk 1 l.length (cs0.drop off), ?_, chunk_len _ _, fun i r y h1 h2 => ?_⟩
    · simp only [rowsN, rowsG, if_true, hb]
      rw [if_pos (by omega)]
    · have hi := lt_of_get h2
      rw [chunk_get hi] at h1
      cases h1
      have hlt : off + i * 1 < cs0.length := by omega
      refine ⟨cs0[off + i * 1], ?_, fun x hx => ?_⟩
      · refine List.ext_getElem? fun j => ?_
        rw [List.getElem?_take]
        cases j with
        | zero =>
          rw [if_pos (by omega), List.getElem?_drop, List.getElem?_drop]
          simp only [Nat.add_zero]
          rw [List.getElem?_eq_getElem hlt]
          rfl
        | succ j => rw [if_neg (by omega)]; rfl
      · refine hc i y 0 x _ h2 hx ?_
        rw [hn, Nat.add_zero]
        exact List.getElem?_eq_getElem hlt
noncomputable def textCtr : Ctr cod := fun _ args h K => match args with
  | [.agg cs] => match decT 4 cs with
    | some o => .need (outB (oc o) = true) (K (.s (textR (oc o))) h)
    | none => .stuck "text: what"
  | _ => .stuck "text"
end Go.Proofs.YtlninpcoolakbaaGreatDoor

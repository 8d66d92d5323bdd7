/- hold.Text over rows: its contract, paid by its hook. -/
import Derived.Test.YtlninpcoolakbaaGreatDoorNu
namespace Go.Proofs.YtlninpcoolakbaaGreatDoor
open Go.RowKit Go.Am Go.Sy
set_option linter.unusedVariables false
def oc (o : Out) : Outc := ⟨o.logs, o.words, o.owners, o.status, o.queues⟩
theorem okB_of {n : Int} (h0 : -9223372036854775808 ≤ n) (h1 : n ≤ 9223372036854775807) : okB n = true := by simp [okB, h0, h1]
theorem lt_of_get {α : Type} {l : List α} {i : Nat} {x : α} (h : l[i]? = some x) : i < l.length := by
  rcases Nat.lt_or_ge i l.length with h1 | h1
  · exact h1
  · rw [List.getElem?_eq_none h1] at h; cases h
theorem intsOf_map : ∀ {rows : List (List AVal)} {l : List Int}, rows.length = l.length → (∀ (i : Nat) (r : List AVal) (n : Int), rows[i]? = some r → l[i]? = some n → r = [.int .i64 n]) → intsOf rows = some l
  | [], [], _, _ => rfl
  | [], _ :: _, h, _ => by simp at h
  | _ :: _, [], h, _ => by simp at h
  | r :: rows, n :: l, h, k => by
    rw [k 0 r n rfl rfl]
    simp only [intsOf]
    rw [intsOf_map (by simpa using h) fun i r n h1 h2 => k (i + 1) r n h1 h2]
    rfl
theorem listsOf_map {f : AVal → Option (List Int)} : ∀ {rows : List (List AVal)} {l : List (List Int)}, rows.length = l.length → (∀ (i : Nat) (r : List AVal) (n : List Int), rows[i]? = some r → l[i]? = some n → ∃ v, r = [v] ∧ f v = some n) → listsOf f rows = some l
  | [], [], _, _ => rfl
  | [], _ :: _, h, _ => by simp at h
  | _ :: _, [], h, _ => by simp at h
  | r :: rows, n :: l, h, k => by
    obtain ⟨v, rfl, hv⟩ := k 0 r n rfl rfl
    simp only [listsOf, hv]
    rw [listsOf_map (by simpa using h) fun i r n h1 h2 => k (i + 1) r n h1 h2]
theorem tl_rows {E : Env} {lo wlo : Nat} {h : SH cod} {H : Heap} (hS : SimH E lo wlo h H) {n : Nat} (hn : cod.sz n = 1) {l : List (cod.T n)} {a : AVal} (ha : Er (C := cod) E (.tl n l) a) :
    ∃ rows, rowsN (fun b => H[b]?) a = some rows ∧ rows.length = l.length ∧ ∀ (i : Nat) (r : List AVal) (y : cod.T n), rows[i]? = some r → l[i]? = some y → ∃ v, r = [v] ∧ ∀ x, (cod.enc n y)[0]? = some x → Er (C := cod) E x v := by
  cases ha with
  | tlN => exact ⟨[], rfl, rfl, fun i r y h => by simp at h⟩
  | tlL hz hl hr hc =>
    rename_i z rows ex
    refine ⟨rows, by rw [hz, hn]; rfl, hl, fun i r y h1 h2 => ?_⟩
    have h3 := hr i r h1
    rw [hn] at h3
    obtain ⟨v, rfl⟩ : ∃ v, r = [v] := by
      cases r with
      | nil => cases h3
      | cons v r => cases r with
        | nil => exact ⟨v, rfl⟩
        | cons w r => simp at h3
    exact ⟨v, rfl, fun x hx => hc i y _ 0 x v h2 h1 hx rfl⟩
  | tlS hz hl hF hle hcap hc =>
    rename_i z b off len cap cs0 ex
    rw [hn] at hz hle
    subst hz
    subst hl
    have hb := (hS.fr b cs0 hF).1
    refine ⟨chunk 1 l.length (cs0.drop off), ?_, chunk_len _ _, fun i r y h1 h2 => ?_⟩
    · simp only [rowsN, rowsG, if_true, hb]
      rw [if_pos (by omega)]
    · have hi := lt_of_get h2
      rw [chunk_get hi] at h1
      cases h1
      have hlt : off + i * 1 < cs0.length := by omega
      refine ⟨cs0[off + i * 1], ?_, fun x hx => ?_⟩
      · refine List.ext_getElem? fun j => ?_
        rw [List.getElem?_take]
        cases j with
        | zero =>
          rw [if_pos (by omega), List.getElem?_drop, List.getElem?_drop]
          simp only [Nat.add_zero]
          rw [List.getElem?_eq_getElem hlt]
          rfl
        | succ j => rw [if_neg (by omega)]; rfl
      · refine hc i y 0 x _ h2 hx ?_
        rw [hn, Nat.add_zero]
        exact List.getElem?_eq_getElem hlt
theorem tl_ints {E : Env} {lo wlo : Nat} {h : SH cod} {H : Heap} (hS : SimH E lo wlo h H) {l : List Int} {a : AVal} (ha : Er (C := cod) E (.tl (T := T) 0 l) a) : intsG (fun b => H[b]?) a = some l := by
  obtain ⟨rows, h1, h2, h3⟩ := tl_rows hS rfl ha
  rw [intsG, h1]
  refine intsOf_map h2 fun i r n hr hn => ?_
  obtain ⟨v, rfl, hv⟩ := h3 i r n hr hn
  have := hv (.i .i64 n) rfl
  rw [intOf_ok this rfl]
theorem tl_lists {E : Env} {lo wlo : Nat} {h : SH cod} {H : Heap} (hS : SimH E lo wlo h H) {l : List (List Int)} {a : AVal} (ha : Er (C := cod) E (.tl (T := T) 1 l) a) : listsG (fun b => H[b]?) a = some l := by
  obtain ⟨rows, h1, h2, h3⟩ := tl_rows hS rfl ha
  rw [listsG, h1]
  refine listsOf_map h2 fun i r n hr hn => ?_
  obtain ⟨v, rfl, hv⟩ := h3 i r n hr hn
  exact ⟨v, rfl, tl_ints hS (hv (.tl (T := T) 0 n) rfl)⟩
noncomputable def textCtr : Ctr cod := fun _ args h K => match args with
  | [.agg cs] => match decT 4 cs with
    | some o => .need (outB (oc o) = true) (K (.s (textR (oc o))) h)
    | none => .stuck "text: what"
  | _ => .stuck "text"
theorem hook6 : F.S.hook 6 = some textHook := by kernel_rfl
theorem textG_is {E : Env} {lo wlo : Nat} {h : SH cod} {H : Heap} (hS : SimH E lo wlo h H) {o : Out} {cs0 : List AVal} (ha : Ers (C := cod) E (enc4 o) cs0) (hb : outB (oc o) = true) : textG (fun b => H[b]?) [.agg cs0] = some (.str (textR (oc o))) := by
  obtain ⟨a0, cs0, rfl, k0, ha⟩ := ha.inv_cons
  obtain ⟨a1, cs0, rfl, k1, ha⟩ := ha.inv_cons
  obtain ⟨a2, cs0, rfl, k2, ha⟩ := ha.inv_cons
  obtain ⟨a3, cs0, rfl, k3, ha⟩ := ha.inv_cons
  obtain ⟨a4, cs0, rfl, k4, ha⟩ := ha.inv_cons
  obtain rfl := ha.inv_nil
  simp only [textG, tl_lists hS k0, tl_ints hS k1, tl_ints hS k2, tl_ints hS k3, tl_lists hS k4, Option.bind_some]
  have hb : outB ⟨o.logs, o.words, o.owners, o.status, o.queues⟩ = true := hb
  rw [hb]
  rfl
theorem textOk : CtrOk1 F.S 6 textCtr := by
  intro E lo wlo args h H K av hh hS hA
  unfold textCtr at hh
  split at hh
  · rename_i cs
    obtain ⟨a0, as1, rfl, h1, hA1⟩ := hA.inv_cons
    obtain rfl := hA1.inv_nil
    split at hh
    · rename_i o ho
      obtain ⟨hb, hh⟩ := hh
      cases h1 with
      | agg hl hc =>
        rename_i cs0
        have he := codOk.dec 4 cs o ho E cs0 ⟨hl, hc⟩
        refine ⟨.str (textR (oc o)), H, _, h, E, ⟨0, ?_⟩, LeN.refl _ _, Nat.le_refl _, hS, Nat.le_refl _, .s _, hh⟩
        simp only [callA, hook6, textHook, textG_is hS he hb, Option.map_some]
    · exact (stuck_no hh).elim
  · exact (stuck_no hh).elim
end Go.Proofs.YtlninpcoolakbaaGreatDoor

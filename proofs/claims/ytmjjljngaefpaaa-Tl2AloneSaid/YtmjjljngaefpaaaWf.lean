/- Tl2Watch: facts of its words, of what was written; what is kept. -/
import Derived.Test.YtmjjljngaefpaaaWn
namespace Go.Proofs.Ytmjjljngaefpaaa
open Go.RowKit Go.Am Go.Sy
set_option linter.unusedVariables false
set_option linter.unusedSimpArgs false
theorem at0_set_ne {W : List Int} {i j : Nat} {x : Int} (hj : j < W.length) (h : i ≠ j) : at0 (W.set i x) (j : Int) = at0 W (j : Int) := by
  rw [at0_get (by rw [List.length_set]; exact hj), at0_get hj, List.getElem_set_ne h]
theorem at0_set_eq {W : List Int} {j : Nat} {x : Int} (hj : j < W.length) : at0 (W.set j x) (j : Int) = x := by
  rw [at0_get (by rw [List.length_set]; exact hj), List.getElem_set_self]
theorem at0_set_nd {W : List Int} (hW : W.length = 34) {i : Nat} {x a : Int} (ha : isData a) (h : i < 26) : at0 (W.set i x) a = at0 W a := by
  have h1 := data_lt ha
  have h2 : 26 ≤ a := by rcases ha with rfl | rfl | rfl | rfl <;> decide
  obtain ⟨j, rfl⟩ : ∃ j : Nat, a = (j : Int) := ⟨a.toNat, by omega⟩
  exact at0_set_ne (by omega) (by omega)
theorem ws_data {ws : List Wo} (hd : ∀ w ∈ ws, isData w.pl) {j : Nat} (h : j < ws.length) : isData (at3 ws (j : Int)).pl := by
  rw [at3_get h]
  exact hd _ (List.getElem_mem _)
theorem done_low {k : Nat} {ws : List Wo} {W : List Int} (hW : W.length = 34) (hd : ∀ w ∈ ws, isData w.pl) (h : DoneL k ws W) {i : Nat} (x : Int) (hi : i < 26) : DoneL k ws (W.set i x) := by
  intro j hj hl
  rw [at0_set_nd hW (ws_data hd hl) hi]
  exact h j hj hl
theorem done_free {k : Nat} {ws : List Wo} {W : List Int} (hW : W.length = 34) (hd : ∀ w ∈ ws, isData w.pl) (h : DoneL k ws W) {r : Int} (hr : r < 3) (x : Int) : DoneL k ws (W.set (2 + r).toNat x) := done_low hW hd h x (by omega)
theorem done_step {k : Nat} {ws : List Wo} {W : List Int} (hW : W.length = 34) (hd : ∀ w ∈ ws, isData w.pl) (hn : (ws.map (·.pl)).Nodup) (h : DoneL k ws W) (hk : k < ws.length) : DoneL (k + 1) ws (W.set (at3 ws (k : Int)).pl.toNat (at3 ws (k : Int)).vl) := by
  intro j hj hl
  have d1 := data_lt (ws_data hd hl)
  have d2 := data_lt (ws_data hd hk)
  obtain ⟨a, ha⟩ : ∃ a : Nat, (at3 ws (j : Int)).pl = (a : Int) := ⟨(at3 ws (j : Int)).pl.toNat, by omega⟩
  rcases Nat.lt_or_ge j k with h1 | h1
  · rw [← h j h1 hl, ha]
    refine at0_set_ne (by omega) fun e => ?_
    have e2 : (at3 ws (k : Int)).pl = (at3 ws (j : Int)).pl := by omega
    rw [at3_get hk, at3_get hl] at e2
    have := (List.getElem_inj (xs := ws.map (·.pl)) (i := k) (j := j) (h₀ := by rw [List.length_map]; exact hk) (h₁ := by rw [List.length_map]; exact hl) hn).1 (by rw [List.getElem_map, List.getElem_map]; exact e2)
    omega
  · obtain rfl : j = k := by omega
    rw [ha]
    exact at0_set_eq (by omega)
theorem done_all {k : Nat} {ws : List Wo} {W : List Int} (h : DoneL k ws W) (hk : ws.length ≤ k) : DoneL 100 ws W := fun j _ hl => h j (by omega) hl
theorem hasB_mem {l : List Wo} {k : Int} (h : hasB l k = false) : k ∉ l.map (·.pl) := by
  intro hm
  rw [hasB_map] at h
  rw [List.any_eq_false] at h
  exact h k hm (by simp)
theorem nod_snoc {l : List Wo} {x : Wo} (hn : (l.map (·.pl)).Nodup) (h : hasB l x.pl = false) : ((l ++ [x]).map (·.pl)).Nodup := by
  rw [List.map_append, List.nodup_append]
  refine ⟨hn, by simp, fun a ha b hb => ?_⟩
  simp only [List.map_cons, List.map_nil, List.mem_singleton] at hb
  subst hb
  rintro rfl
  exact hasB_mem h ha
theorem nod_set {l l' : List Wo} (hn : (l.map (·.pl)).Nodup) (h : l'.map (·.pl) = l.map (·.pl)) : (l'.map (·.pl)).Nodup := by rw [h]; exact hn
theorem find_ge : ∀ (l : List Wo) (k i : Int), 0 ≤ i → hasB l k = true → 0 ≤ findGo k l i
  | [], k, i, _, h => by cases h
  | w :: l, k, i, hi, h => by
    rw [findGo]
    split
    · exact hi
    · rename_i hne
      refine find_ge l k (i + 1) (by omega) ?_
      unfold hasB at h
      rw [List.any_cons, Bool.or_eq_true] at h
      rcases h with h | h
      · exact absurd (eq_of_beq h) hne
      · exact h
theorem no_find {l : List Wo} {k : Int} (h : ¬ 0 ≤ findT l k) : hasB l k = false := by
  cases hb : hasB l k with
  | false => rfl
  | true => exact absurd (find_ge l k 0 (Int.le_refl 0) hb) h
theorem no_bit {l : List Wo} {k : Int} (hk : isData k) (h : (IntKind.u64.wrap ((BitVec.ofInt IntKind.u64.bits (filtT l) &&& BitVec.ofInt IntKind.u64.bits (bitT k)).toNat : Int) == 0) = true) : hasB l k = false := by
  rw [filt_bit l k hk] at h
  simpa using h
theorem mkBW {p : List Op} {s : US} (h : baseI p s) (hn : nodW s) : baseW p s := ⟨h, hn⟩
end Go.Proofs.Ytmjjljngaefpaaa

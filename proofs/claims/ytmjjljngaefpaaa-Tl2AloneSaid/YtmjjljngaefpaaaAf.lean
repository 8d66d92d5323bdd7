/- Tl2Alone: facts of what was written, of what is compared. -/
import Derived.Test.YtmjjljngaefpaaaAn
namespace Go.Proofs.Ytmjjljngaefpaaa
open Go.RowKit Go.Am Go.Sy
set_option linter.unusedVariables false
set_option linter.unusedSimpArgs false
theorem mA {n : Nat} (h : n < 200) : (1000000 : Nat) - (n + 1) < 1000000 - n := by omega
theorem wR_d {ck ph : Int} {l : List Int} {a : Int} (h : isData a) : at0 (wR ck ph l) a = 0 := by
  rcases h with rfl | rfl | rfl | rfl <;> rfl
theorem made_one {ws : List Wo} (h : ws ≠ []) : (1 : Int) = madeT ws := by
  cases ws with
  | nil => exact (h rfl).elim
  | cons w ws => rfl
theorem keep_of {ws : List Wo} {W rows : List Int} (e : W = wR 1 2 rows) (h : ws ≠ []) : KeepL ws W := by
  subst e
  exact ⟨fun q hq _ => wR_d hq, made_one h⟩
theorem keep_set {ws : List Wo} {W : List Int} (hW : W.length = 34) (h : KeepL ws W) {i : Nat} (x : Int) (h0 : 0 < i) (h1 : ∀ q, isData q → (∀ w ∈ ws, w.pl ≠ q) → (i : Int) ≠ q) : KeepL ws (W.set i x) := by
  have out : ∀ q : Int, 0 ≤ q → q < 34 → (i : Int) ≠ q → at0 (W.set i x) q = at0 W q := by
    intro q g0 g1 g2
    obtain ⟨j, rfl⟩ : ∃ j : Nat, q = (j : Int) := ⟨q.toNat, by omega⟩
    exact at0_set_ne (by omega) (by omega)
  refine ⟨fun q hq hn => ?_, ?_⟩
  · rw [out q (data_lt hq).1 (data_lt hq).2 (h1 q hq hn)]
    exact h.1 q hq hn
  · rw [out 0 (by decide) (by decide) (by omega)]
    exact h.2
theorem data_ge {q : Int} (h : isData q) : 26 ≤ q := by
  rcases h with rfl | rfl | rfl | rfl <;> decide
theorem keep_put {ws : List Wo} {W : List Int} (hW : W.length = 34) (hd : ∀ w ∈ ws, isData w.pl) (h : KeepL ws W) {k : Nat} (hk : k < ws.length) : KeepL ws (W.set (at3 ws (k : Int)).pl.toNat (at3 ws (k : Int)).vl) := by
  have hv := data_ge (ws_data hd hk)
  refine keep_set hW h _ (by omega) fun q _ hn e => ?_
  have hm : ws[k] ∈ ws := List.getElem_mem hk
  have := hn _ hm
  rw [← at3_get hk] at this
  omega
theorem keep_free {ws : List Wo} {W : List Int} (hW : W.length = 34) (h : KeepL ws W) {r : Int} (h0 : 0 ≤ r) (h1 : r < 3) (x : Int) : KeepL ws (W.set (2 + r).toNat x) :=
  keep_set hW h x (by omega) fun q hq _ e => by have := data_ge hq; omega
theorem keep_low {ws : List Wo} {W : List Int} (hW : W.length = 34) (h : KeepL ws W) (x : Int) : KeepL ws (W.set 13 x) :=
  keep_set hW h x (by decide) fun q hq _ e => by have := data_ge hq; omega
theorem leave_nil {ws : List Wo} {W : List Int} (e : W = wR 0 2 []) (h : ws = []) : DoneL 100 ws W ∧ KeepL ws W ∧ (0 : Int) = madeT ws := by
  subst h
  subst e
  exact ⟨fun j _ hl => absurd hl (Nat.not_lt_zero j), ⟨fun q hq _ => wR_d hq, rfl⟩, rfl⟩
theorem made_nil {ws : List Wo} (h : ws.length = 0) : madeT ws = 0 := by
  rw [List.eq_nil_of_length_eq_zero h]
  rfl
theorem phase_off {W : List Int} (hW : W.length = 34) : at0 (W.set 13 0) 13 = 0 := at0_set_eq (j := 13) (by omega)
def Tz0 (W : List Int) (ws : List Wo) (steps a : Int) (r : US → Prop) : Prop := ∃ s : US, Q 3 ∧ Q 1 ∧ Q 3 ∧ Q 0 ∧ Q 4 ∧ W = s.W ∧ steps = s.steps ∧ Q 2 ∧ a = s.a ∧ a = s.a ∧ Q 1 ∧ ws = s.ws ∧ r s
theorem tz0 {r : US → Prop} {s : US} (h : r s) : Tz0 s.W s.ws s.steps s.a r := ⟨s, rfl, rfl, rfl, rfl, rfl, rfl, rfl, rfl, rfl, rfl, rfl, rfl, h⟩
def Tz1 (W : List Int) (ws : List Wo) (steps a : Int) (r : US → Prop) : Prop := ∃ s : US, Q 3 ∧ Q 1 ∧ Q 3 ∧ Q 0 ∧ Q 4 ∧ W = s.W ∧ steps = s.steps ∧ (at3 ws 0).pl = (at3 s.ws 0).pl ∧ (at3 ws 0).vl = (at3 s.ws 0).vl ∧ Q 2 ∧ a = s.a ∧ a = s.a ∧ Q 1 ∧ ws = s.ws ∧ r s
theorem tz1 {r : US → Prop} {s : US} (h : r s) : Tz1 s.W s.ws s.steps s.a r := ⟨s, rfl, rfl, rfl, rfl, rfl, rfl, rfl, rfl, rfl, rfl, rfl, rfl, rfl, rfl, h⟩
def Tz2 (W : List Int) (ws : List Wo) (steps a : Int) (r : US → Prop) : Prop := ∃ s : US, Q 3 ∧ Q 1 ∧ Q 3 ∧ Q 0 ∧ Q 4 ∧ W = s.W ∧ steps = s.steps ∧ (at3 ws 0).pl = (at3 s.ws 0).pl ∧ (at3 ws 1).pl = (at3 s.ws 1).pl ∧ (at3 ws 0).vl = (at3 s.ws 0).vl ∧ (at3 ws 1).vl = (at3 s.ws 1).vl ∧ Q 2 ∧ a = s.a ∧ a = s.a ∧ Q 1 ∧ ws = s.ws ∧ r s
theorem tz2 {r : US → Prop} {s : US} (h : r s) : Tz2 s.W s.ws s.steps s.a r := ⟨s, rfl, rfl, rfl, rfl, rfl, rfl, rfl, rfl, rfl, rfl, rfl, rfl, rfl, rfl, rfl, rfl, h⟩
def Tz3 (W : List Int) (ws : List Wo) (steps a : Int) (r : US → Prop) : Prop := ∃ s : US, Q 3 ∧ Q 1 ∧ Q 3 ∧ Q 0 ∧ Q 4 ∧ W = s.W ∧ steps = s.steps ∧ (at3 ws 0).pl = (at3 s.ws 0).pl ∧ (at3 ws 1).pl = (at3 s.ws 1).pl ∧ (at3 ws 2).pl = (at3 s.ws 2).pl ∧ (at3 ws 0).vl = (at3 s.ws 0).vl ∧ (at3 ws 1).vl = (at3 s.ws 1).vl ∧ (at3 ws 2).vl = (at3 s.ws 2).vl ∧ Q 2 ∧ a = s.a ∧ a = s.a ∧ Q 1 ∧ ws = s.ws ∧ r s
theorem tz3 {r : US → Prop} {s : US} (h : r s) : Tz3 s.W s.ws s.steps s.a r := ⟨s, rfl, rfl, rfl, rfl, rfl, rfl, rfl, rfl, rfl, rfl, rfl, rfl, rfl, rfl, rfl, rfl, rfl, rfl, h⟩
def Tz4 (W : List Int) (ws : List Wo) (steps a : Int) (r : US → Prop) : Prop := ∃ s : US, Q 3 ∧ Q 1 ∧ Q 3 ∧ Q 0 ∧ Q 4 ∧ W = s.W ∧ steps = s.steps ∧ (at3 ws 0).pl = (at3 s.ws 0).pl ∧ (at3 ws 1).pl = (at3 s.ws 1).pl ∧ (at3 ws 2).pl = (at3 s.ws 2).pl ∧ (at3 ws 3).pl = (at3 s.ws 3).pl ∧ (at3 ws 0).vl = (at3 s.ws 0).vl ∧ (at3 ws 1).vl = (at3 s.ws 1).vl ∧ (at3 ws 2).vl = (at3 s.ws 2).vl ∧ (at3 ws 3).vl = (at3 s.ws 3).vl ∧ Q 2 ∧ a = s.a ∧ a = s.a ∧ Q 1 ∧ ws = s.ws ∧ r s
theorem tz4 {r : US → Prop} {s : US} (h : r s) : Tz4 s.W s.ws s.steps s.a r := ⟨s, rfl, rfl, rfl, rfl, rfl, rfl, rfl, rfl, rfl, rfl, rfl, rfl, rfl, rfl, rfl, rfl, rfl, rfl, rfl, rfl, h⟩
theorem cnt_list (d : Nat) (hd : d < 4) : ∀ l : List Int, (∀ q ∈ l, isData q) → l.Nodup →
    l.countP (fun q => decide (q < 26 + 2 * ((d + 1 : Nat) : Int))) = l.countP (fun q => decide (q < 26 + 2 * (d : Int))) + (if (26 + 2 * (d : Int)) ∈ l then 1 else 0)
  | [], _, _ => rfl
  | x :: l, hl, hn => by
    obtain ⟨hx, hn⟩ := List.nodup_cons.1 hn
    have ih := cnt_list d hd l (fun q hq => hl q (List.mem_cons_of_mem _ hq)) hn
    have hxd := hl x List.mem_cons_self
    rw [List.countP_cons, List.countP_cons, ih]
    by_cases e : x = 26 + 2 * (d : Int)
    · rw [if_neg (show (26 + 2 * (d : Int)) ∉ l by rw [← e]; exact hx), if_pos (show (26 + 2 * (d : Int)) ∈ x :: l by rw [← e]; exact List.mem_cons_self),
        if_pos (by simp only [decide_eq_true_eq]; omega), if_neg (by simp only [decide_eq_true_eq]; omega)]
    · have h2 : (decide (x < 26 + 2 * ((d + 1 : Nat) : Int)) = true) = (decide (x < 26 + 2 * (d : Int)) = true) := by
        simp only [decide_eq_true_eq]
        apply propext
        unfold isData at hxd
        omega
      have h3 : ((26 + 2 * (d : Int)) ∈ x :: l) = ((26 + 2 * (d : Int)) ∈ l) := by
        apply propext
        rw [List.mem_cons]
        exact ⟨fun h => h.resolve_left fun h => e h.symm, .inr⟩
      simp only [h2, h3]
      omega
theorem cnt_succ {ws : List Wo} (hd : ∀ w ∈ ws, isData w.pl) (hn : (ws.map (·.pl)).Nodup) {d : Nat} (h : d < 4) : cntT ws (d + 1) = cntT ws d + (if (26 + 2 * (d : Int)) ∈ ws.map (·.pl) then 1 else 0) :=
  cnt_list d h _ (fun q hq => by obtain ⟨w, hw, rfl⟩ := List.mem_map.1 hq; exact hd w hw) hn
theorem cnt_zero {ws : List Wo} (hd : ∀ w ∈ ws, isData w.pl) : 0 = cntT ws 0 := by
  unfold cntT
  symm
  rw [List.countP_eq_zero]
  intro q hq
  obtain ⟨w, hw, rfl⟩ := List.mem_map.1 hq
  have := data_ge (hd w hw)
  simp only [decide_eq_true_eq]
  omega
theorem cnt_four {ws : List Wo} (hd : ∀ w ∈ ws, isData w.pl) : cntT ws 4 = ws.length := by
  unfold cntT
  rw [show ws.length = (ws.map (·.pl)).length by rw [List.length_map], List.countP_eq_length]
  intro q hq
  obtain ⟨w, hw, rfl⟩ := List.mem_map.1 hq
  have := (data_lt (hd w hw)).2
  simp only [decide_eq_true_eq]
  omega
theorem cnt_le (ws : List Wo) (d : Nat) : cntT ws d ≤ ws.length := by
  have := List.countP_le_length (p := fun q => decide (q < 26 + 2 * (d : Int))) (l := ws.map (·.pl))
  rwa [List.length_map] at this
theorem fin_len {s : US} (h : finI s) : s.ws.length ≤ 4 := by
  obtain ⟨_, _, hd, hn, _⟩ := h
  have h0 := cnt_zero hd
  have h1 := cnt_succ hd hn (d := 0) (by decide)
  have h2 := cnt_succ hd hn (d := 1) (by decide)
  have h3 := cnt_succ hd hn (d := 2) (by decide)
  have h4 := cnt_succ hd hn (d := 3) (by decide)
  have h5 := cnt_four hd
  simp only [Nat.zero_add, Nat.reduceAdd] at h1 h2 h3 h4
  split at h1 <;> split at h2 <;> split at h3 <;> split at h4 <;> omega
theorem dup_no {s : US} (h : finI s) {j k : Nat} (hj : j < k) (hk : k < s.ws.length) (e : ((at3 s.ws (k : Int)).pl == (at3 s.ws (j : Int)).pl) = true) : False := by
  obtain ⟨_, _, _, hn, _⟩ := h
  have hn : (s.ws.map (·.pl)).Nodup := hn
  have e := eq_of_beq e
  rw [at3_get hk, at3_get (show j < s.ws.length by omega)] at e
  have := (List.getElem_inj (xs := s.ws.map (·.pl)) (i := k) (j := j) (h₀ := by rw [List.length_map]; exact hk) (h₁ := by rw [List.length_map]; omega) hn).1 (by rw [List.getElem_map, List.getElem_map]; exact e)
  omega
theorem cmp_hit {k d : Nat} {s : US} (h : cmpI k d s) (hd : d < 4) {j : Nat} (hj : j < k) {q : Int} (hq : q = 26 + 2 * (d : Int)) (e : (q == (at3 s.ws (j : Int)).pl) = true) : at0 s.W q = (at3 s.ws (j : Int)).vl ∧ s.n + 1 = cntT s.ws (d + 1) := by
  obtain ⟨⟨hW, _, hwd, hn, ⟨hdone, hkeep, _⟩, _⟩, hl, hc⟩ := h
  have e := eq_of_beq e
  have hjl : j < s.ws.length := by omega
  refine ⟨by rw [e]; exact hdone j (by have := fin_len (s := s) ⟨hW, by omega, hwd, hn, ⟨hdone, hkeep, ‹_›⟩, ‹_›⟩; omega) hjl, ?_⟩
  rw [cnt_succ hwd hn hd, if_pos ?_, hc]
  rw [← hq, e, at3_get hjl]
  exact List.mem_map.2 ⟨_, List.getElem_mem hjl, rfl⟩
theorem cmp_miss {k d : Nat} {s : US} (h : cmpI k d s) (hd : d < 4) {q : Int} (hq : q = 26 + 2 * (d : Int)) (e : ∀ j : Nat, j < k → (q == (at3 s.ws (j : Int)).pl) = false) : at0 s.W q = 0 ∧ s.n = cntT s.ws (d + 1) := by
  obtain ⟨⟨hW, _, hwd, hn, ⟨hdone, hkeep, _⟩, _⟩, hl, hc⟩ := h
  have no : ∀ w ∈ s.ws, w.pl ≠ q := by
    intro w hw e2
    obtain ⟨j, hj, rfl⟩ := List.getElem_of_mem hw
    have := ne_of_beq_false (e j (by omega))
    rw [at3_get hj] at this
    exact this e2.symm
  refine ⟨hkeep.1 q (by rw [hq]; exact data_of (by omega) (by omega)) no, ?_⟩
  rw [cnt_succ hwd hn hd, if_neg ?_, hc]
  · rfl
  · rw [← hq]
    intro hm
    obtain ⟨w, hw, e2⟩ := List.mem_map.1 hm
    exact no w hw e2
end Go.Proofs.Ytmjjljngaefpaaa

/- The document's own Mates: its contract is paid. -/
import Derived.Test.YtjboohjicdmidaaDoorRy
namespace Go.Proofs.YtjboohjicdmidaaDoor
open Go.RowKit Go.Am Go.Sy
set_option linter.unusedVariables false
set_option linter.unusedSimpArgs false
section
variable {p : List Instr}
theorem rm_e_ok (hp : p.length ≤ 100000) : Paid (entryX F (lookC []) 300 Tryd.f59 b59 (rmF p) [.tl (T := T) 2 p]) := by
  refine ⟨?_⟩
  rw [rm_e]
  have e0 : ∀ j : Nat, at0 (List.replicate p.length 0) j ≤ 0 := fun j => by
    have e : at0 (List.replicate p.length 0) (j : Int) = ((List.replicate p.length (0 : Int))[j]?).getD (cod.dflt 0) := List.getD_eq_getElem?_getD
    rw [e, List.getElem?_replicate]
    split
    · exact Int.le_refl _
    · exact Int.le_refl _
  exact ⟨⟨by omega, rfl, by omega, by omega⟩, ⟨⟨List.replicate p.length 0, []⟩, 0⟩, rfl, rfl, rfl, rfl, ⟨⟨Nat.zero_le _, ⟨List.length_replicate, fun b hb => by cases hb⟩, Nat.le_refl _, rfl⟩, .nil, ⟨(fun b hb => by cases hb), fun j => .inl (e0 j)⟩⟩, trivial⟩
theorem rmL_bad (h : 0 ≤ (matesR p).2) : [] = rmL p := by rw [rmL, if_neg (by omega)]
theorem rm_42_ok (m : List Int) (b : Blk) (j : Nat) (hm : m.length = p.length) (hb : BOk p p.length m b) (hne : b.l ≠ b.a) (hl : b.l < p.length) (hj : (j : Int) ≤ b.a) (hr : (matesR p).2 = b.a) (h9 : p.length ≤ 100000) : Paid (cutVC F (lookC []) 300 Tryd.f59 b59 (rmF p) 42 (rmC42 p) ⟨m, b, j⟩) := by
  refine ⟨?_⟩
  rw [rm_42]
  obtain ⟨h1, h2, h3, h4⟩ := hb.els hne
  have a0 := hb.a0; have al := hb.al
  have r1 : (0 : Int) ≤ j ∧ (j : Int) < m.length := ⟨by omega, by omega⟩
  refine ⟨fun h => ⟨r1, r1, fun g => ?_, fun g => ?_⟩, fun h => ?_⟩
  · have g : at0 m j = b.l := eq_of_beq g
    have e := h4 j (by omega) g
    exact ⟨rmL_bad (by omega), by omega, trivial⟩
  · have g : ¬ at0 m j = b.l := ne_of_beq_false g
    have e : (j : Int) ≠ b.a := fun e => g (by rw [e]; exact h3)
    exact ⟨⟨m, b, j + 1⟩, rfl, rfl, succ64 (by omega), ⟨hm, hb, hne, hl, by show ((j + 1 : Nat) : Int) ≤ b.a; omega, hr⟩, by show p.length - (j + 1) < p.length - j; omega, trivial⟩
  · have h := of_decide_eq_false h
    omega
theorem rm_4_ok (h9 : p.length ≤ 100000) (m : List Int) (s : List Blk) (i : Nat) (hJ : jOk p ⟨⟨m, s⟩, i⟩) : Paid (cutVC F (lookC []) 300 Tryd.f59 b59 (rmF p) 4 (rmC4 p) ⟨⟨m, s⟩, i⟩) := by
  refine ⟨?_⟩
  rw [rm_4]
  simp only [opens_len]
  have hJ' := hJ
  obtain ⟨⟨k1, ⟨k2, k2'⟩, k3, k4⟩, k5, k6, k7⟩ := hJ'
  replace k1 : i ≤ p.length := k1
  replace k2 : m.length = p.length := k2
  replace k3 : s.length ≤ i := k3
  replace k4 : mgo p (p.length - i) i ⟨m, s⟩ = matesR p := k4
  have hwl : IntKind.i64.wrap ((s.length : Int) - 1) = (s.length : Int) - 1 := wrap64 (by omega) (by omega)
  rw [hwl]
  refine ⟨fun h => ?_, fun h => ?_⟩
  · have h : i < p.length := by have := of_decide_eq_true h; omega
    have r1 : (0 : Int) ≤ (i : Int) ∧ (i : Int) < (m.length : Int) := ⟨by omega, by omega⟩
    have hm : p.length + (3 + 3 * (p.length - i)) < p.length + (4 + 3 * (p.length - i)) := by omega
    refine ⟨r1, r1, fun g => ?_, fun g => ?_⟩
    · have g : (s.length : Int) > 0 := of_decide_eq_true g
      have hne : s ≠ [] := by rintro rfl; simp at g
      have hb := k6 _ (lst_in hne)
      replace hb : BOk p i m (lst s) := hb
      have a0 := hb.a0; have al := hb.al; have li := hb.li
      rw [opens_lst hne]
      have r2 : (0 : Int) ≤ (s.length : Int) - 1 ∧ (s.length : Int) - 1 < (s.length : Int) := ⟨by omega, by omega⟩
      refine ⟨r2, r2, fun g2 => ⟨⟨by omega, by omega⟩, ⟨⟨m, s⟩, i⟩, trivial, rfl, rfl, rfl, ?_, ?_, trivial, ⟨h, hJ⟩, hm, trivial⟩, fun g2 => ?_⟩
      · show (lst s).l = topO s
        rw [topO, if_neg hne]
      · show (at2 p (lst s).l).op = isO p s
        rw [isO, if_neg hne]
      · have := of_decide_eq_false g2
        omega
    · have g : ¬ (s.length : Int) > 0 := of_decide_eq_false g
      have hne : s = [] := List.length_eq_zero_iff.1 (by omega)
      subst hne
      exact ⟨⟨⟨m, []⟩, i⟩, trivial, rfl, rfl, rfl, rfl, rfl, trivial, ⟨h, hJ⟩, hm, trivial⟩
  · have h : i = p.length := by have := of_decide_eq_false h; omega
    subst h
    rw [Nat.sub_self] at k4
    refine ⟨fun g => ?_, fun g => ?_⟩
    · have g : (s.length : Int) = 0 := eq_of_beq g
      have hne : s = [] := List.length_eq_zero_iff.1 (by omega)
      subst hne
      have e : matesR p = (m, -1) := by rw [← k4, mgo, if_pos rfl]
      refine ⟨?_, by rw [e], trivial⟩
      rw [rmL, e]
      rfl
    · have g : ¬ (s.length : Int) = 0 := ne_of_beq_false g
      have hne : s ≠ [] := by rintro rfl; simp at g
      have hb := k6 _ (lst_in hne)
      replace hb : BOk p p.length m (lst s) := hb
      have a0 := hb.a0; have al := hb.al; have li := hb.li
      have e : matesR p = ([], (lst s).a) := by rw [← k4, mgo, if_neg hne]
      rw [opens_lst hne]
      have r2 : (0 : Int) ≤ (s.length : Int) - 1 ∧ (s.length : Int) - 1 < (s.length : Int) := ⟨by omega, by omega⟩
      refine ⟨r2, r2, ⟨by omega, by omega⟩, fun q => ⟨⟨m, lst s, 0⟩, rfl, rfl, rfl, ⟨k2, hb, ?_, li, a0, by rw [e]⟩, by show p.length - 0 < _; omega, trivial⟩, fun q => ?_⟩
      · have q : (at2 p (lst s).l).op = 19 := eq_of_beq q
        intro e2
        have := hb.op
        have e2 : (lst s).l = (lst s).a := e2
        rw [e2] at q
        omega
      · have q : ¬ (at2 p (lst s).l).op = 19 := ne_of_beq_false q
        have e2 : (lst s).l = (lst s).a := Decidable.byContradiction fun h => q (hb.els h).2.1
        exact ⟨rmL_bad (by rw [e]; exact a0), by rw [e]; exact e2, trivial⟩
theorem rm_14_ok (h9 : p.length ≤ 100000) (m : List Int) (s : List Blk) (i : Nat) (hi : i < p.length) (hJ : jOk p ⟨⟨m, s⟩, i⟩) : Paid (cutVC F (lookC []) 300 Tryd.f59 b59 (rmF p) 14 (rmC14 p) ⟨⟨m, s⟩, i⟩) := by
  refine ⟨?_⟩
  rw [rm_14]
  simp only [opens_len, List.length_set, List.length_cons, List.length_nil]
  obtain ⟨⟨k1, ⟨k2, k2'⟩, k3, k4⟩, k5, k6, k7⟩ := id hJ
  replace k2 : m.length = p.length := k2
  replace k3 : s.length ≤ i := k3
  have hwl : IntKind.i64.wrap ((s.length : Int) - 1) = (s.length : Int) - 1 := wrap64 (by omega) (by omega)
  have hw : IntKind.i64.wrap ((i : Int) + 1) = ((i + 1 : Nat) : Int) := succ64 (by omega)
  rw [hwl, hw, k2]
  have hmeas : p.length + (4 + 3 * (p.length - (i + 1))) < p.length + (3 + 3 * (p.length - i)) := by omega
  have ri : (0 : Int) ≤ (i : Int) ∧ (i : Int) < (p.length : Int) := ⟨by omega, by omega⟩
  have sz : (s.length + (0 + 1)) * 8 ≤ 140737488355328 := by omega
  have zz : (0 : Int) ≤ 0 := Int.le_refl _
  have et : ((s.length : Int) - 1).toNat = s.length - 1 := by omega
  have ein : (i : Int).toNat = i := by omega
  -- the last one that is open
  have last : isO p s ≠ 0 → s ≠ [] ∧ isO p s = (at2 p (lst s).l).op ∧ topO s = (lst s).l ∧ BOk p i m (lst s) := fun h => by
    have hne : s ≠ [] := by rintro rfl; exact h rfl
    exact ⟨hne, by rw [isO, if_neg hne], by rw [topO, if_neg hne], k6 _ (lst_in hne)⟩
  have rT : isO p s ≠ 0 → 0 ≤ topO s ∧ topO s < (p.length : Int) := fun h => by
    obtain ⟨_, _, e, hb⟩ := last h
    have a0 := hb.a0; have al := hb.al; have li := hb.li
    rw [e]; omega
  have rS : isO p s ≠ 0 → 0 ≤ (s.length : Int) - 1 ∧ (s.length : Int) - 1 < (s.length : Int) := fun h => by
    have := List.length_pos_iff.2 (last h).1
    omega
  have bads : ∀ h : opener (at2 p i).op ≠ 0, msBad p i s → [] = rmL p ∧ (i : Int) = (matesR p).2 := fun h hb => by
    have := mt_fail hi hJ.1 (ms_bad h hb)
    exact ⟨rmL_bad (by rw [← this.2.1]; omega), this.2.1⟩
  have opn : ∀ k v : Int, (at2 p i).op = k → opener k = v → v ≠ 0 → opener (at2 p i).op ≠ 0 := fun k v h1 h2 h3 => by rw [h1, h2]; exact h3
  have fail : ((at2 p i).op = 19 ∧ isO p s ≠ 18) ∨ ((at2 p i).op = 20 ∧ isO p s ≠ 18 ∧ isO p s ≠ 19) ∨ ((at2 p i).op = 22 ∧ isO p s ≠ 21) ∨ ((at2 p i).op = 14 ∧ isO p s ≠ 13) → [] = rmL p ∧ (i : Int) = (matesR p).2 := fun h => by
    have hop : opener (at2 p i).op ≠ 0 := by
      rcases h with h | h | h | h
      · exact opn 19 18 h.1 rfl (by decide)
      · exact opn 20 18 h.1 rfl (by decide)
      · exact opn 22 21 h.1 rfl (by decide)
      · exact opn 14 13 h.1 rfl (by decide)
    refine bads hop ?_
    by_cases hne : s = []
    · exact .inl hne
    · have hb := k6 _ (lst_in hne)
      replace hb : BOk p i m (lst s) := hb
      have e : isO p s = (at2 p (lst s).l).op := by rw [isO, if_neg hne]
      rw [e] at h
      have o1 := hb.op
      by_cases hl : (lst s).l = (lst s).a
      · rw [hl] at h
        refine .inr (.inl ?_)
        rcases h with h | h | h | h <;> rw [h.1] <;> (show (at2 p (lst s).a).op ≠ _; simp only [opener]; omega)
      · have o2 := hb.els hl
        rcases h with h | h | h | h
        · exact .inr (.inr ⟨h.1, hl⟩)
        · omega
        · refine .inr (.inl ?_)
          rw [h.1, o2.1]; decide
        · refine .inr (.inl ?_)
          rw [h.1, o2.1]; decide
  have gOpen : (at2 p i).op = 18 ∨ (at2 p i).op = 21 ∨ (at2 p i).op = 13 → ∃ (s_1 : MtS), m.set i (-1) = s_1.q.m ∧ opens s ++ [(i : Int)] = opens s_1.q.s ∧ ((i + 1 : Nat) : Int) = (s_1.i : Int) ∧ jOk p s_1 ∧ p.length + (4 + 3 * (p.length - s_1.i)) < p.length + (3 + 3 * (p.length - i)) := fun h =>
    ⟨⟨⟨m.set i (-1), s ++ [⟨i, i⟩]⟩, i + 1⟩, rfl, by simp [opens], rfl, j_open hJ hi h, hmeas⟩
  have gOther : ¬ ((at2 p i).op = 18 ∨ (at2 p i).op = 21 ∨ (at2 p i).op = 13) → opener (at2 p i).op = 0 → ∃ (s_1 : MtS), m.set i (-1) = s_1.q.m ∧ opens s = opens s_1.q.s ∧ ((i + 1 : Nat) : Int) = (s_1.i : Int) ∧ jOk p s_1 ∧ p.length + (4 + 3 * (p.length - s_1.i)) < p.length + (3 + 3 * (p.length - i)) := fun h h2 =>
    ⟨⟨⟨m.set i (-1), s⟩, i + 1⟩, rfl, rfl, rfl, j_other hJ hi h h2, hmeas⟩
  have hset1 : ∀ t : Nat, (lst s).l = t → t < i → ∀ j : Nat, at0 ((m.set i (-1)).set t i) j = if i = j then -1 else if (lst s).l = (j : Int) then (i : Int) else at0 m j := fun t h1 h2 j => by
    rw [at0_set, at0_set, List.length_set, k2, h1]
    by_cases e : i = j
    · rw [if_pos e, if_neg (by omega), if_pos (by omega)]
    · rw [if_neg e]
      by_cases e2 : t = j
      · rw [if_pos (by omega), if_pos (by omega)]
      · rw [if_neg (by omega), if_neg (by omega), if_neg (by omega)]
  have gElse : (at2 p i).op = 19 → isO p s = 18 → ∃ (s_1 : MtS), (m.set i (-1)).set (topO s).toNat (i : Int) = s_1.q.m ∧ (opens s).set ((s.length : Int) - 1).toNat (i : Int) = opens s_1.q.s ∧ ((i + 1 : Nat) : Int) = (s_1.i : Int) ∧ jOk p s_1 ∧ p.length + (4 + 3 * (p.length - s_1.i)) < p.length + (3 + 3 * (p.length - i)) := fun h h2 => by
    clear gOpen gOther fail bads rT rS
    obtain ⟨hne, e1, e2, hb⟩ := last (by omega)
    have a0 := hb.a0; have al := hb.al; have li := hb.li
    have hop := opn 19 18 h rfl (by decide)
    have hl : (lst s).l = (lst s).a := Decidable.byContradiction fun x => by have := (hb.els x).2.1; omega
    have ha : (at2 p (lst s).a).op = 18 := by rw [← hl]; omega
    have nb : ¬ msBad p i s := by
      rintro (x | x | ⟨_, x⟩)
      · exact hne x
      · exact x (by rw [ha, h]; rfl)
      · exact x hl
    obtain ⟨t, ht⟩ := Int.eq_ofNat_of_zero_le (show 0 ≤ (lst s).l by omega)
    have hc : s.set (s.length - 1) ⟨(lst s).a, i⟩ = s.take (s.length - 1) ++ [⟨(lst s).a, (i : Int)⟩] := by
      have e : s = s.take (s.length - 1) ++ [lst s] := split_last hne
      have hlen : (s.take (s.length - 1)).length = s.length - 1 := by rw [List.length_take]; omega
      conv => lhs; arg 1; rw [e]
      rw [List.set_append_right _ _ (by omega), hlen, Nat.sub_self]
      rfl
    refine ⟨⟨⟨(m.set i (-1)).set t i, s.set (s.length - 1) ⟨(lst s).a, i⟩⟩, i + 1⟩, by rw [e2, ht]; rfl, ?_, rfl, j_close hJ hi hne (by simp) (hset1 t ht (by omega)) (.inl rfl) ?_ (.inr ⟨hc, rfl, h, hl, ha⟩), hmeas⟩
    · rw [et]
      show (s.map (·.l)).set (s.length - 1) (i : Int) = (s.set (s.length - 1) ⟨(lst s).a, (i : Int)⟩).map (·.l)
      rw [List.map_set]
    · have := ms_else (m := m) hop nb h
      rw [ht] at this
      exact this
  have tk : List.take (((s.length : Int) - 1).toNat - 0) (List.drop 0 (opens s)) = opens (s.take (s.length - 1)) := by
    rw [et]
    show (s.map (·.l)).take (s.length - 1 - 0) = (s.take (s.length - 1)).map (·.l)
    rw [List.map_take]
    rfl
  have gEnd : (at2 p i).op = 20 → (isO p s = 18 ∨ isO p s = 19) → ∃ (s_1 : MtS), (m.set i (-1)).set (topO s).toNat (i : Int) = s_1.q.m ∧ List.take (((s.length : Int) - 1).toNat - 0) (List.drop 0 (opens s)) = opens s_1.q.s ∧ ((i + 1 : Nat) : Int) = (s_1.i : Int) ∧ jOk p s_1 ∧ p.length + (4 + 3 * (p.length - s_1.i)) < p.length + (3 + 3 * (p.length - i)) := fun h h2 => by
    clear gOpen gOther gElse fail bads rT rS
    obtain ⟨hne, e1, e2, hb⟩ := last (by omega)
    have a0 := hb.a0; have al := hb.al; have li := hb.li
    have hop := opn 20 18 h rfl (by decide)
    have ha : (at2 p (lst s).a).op = 18 := by
      by_cases hl : (lst s).l = (lst s).a
      · have := hb.op; rw [hl] at e1; omega
      · exact (hb.els hl).1
    have nb : ¬ msBad p i s := by
      rintro (x | x | ⟨x, _⟩)
      · exact hne x
      · exact x (by rw [ha, h]; rfl)
      · omega
    obtain ⟨t, ht⟩ := Int.eq_ofNat_of_zero_le (show 0 ≤ (lst s).l by omega)
    refine ⟨⟨⟨(m.set i (-1)).set t i, s.take (s.length - 1)⟩, i + 1⟩, by rw [e2, ht]; rfl, tk, rfl, j_close hJ hi hne (by simp) (hset1 t ht (by omega)) (.inl rfl) ?_ (.inl rfl), hmeas⟩
    have := ms_end (m := m) hop nb (by rw [h]; decide) (by rw [h]; decide)
    rw [ht] at this
    exact this
  have gBack : ((at2 p i).op = 22 ∧ isO p s = 21) ∨ ((at2 p i).op = 14 ∧ isO p s = 13) → ∃ (s_1 : MtS), ((m.set i (-1)).set (topO s).toNat (i : Int)).set i (topO s) = s_1.q.m ∧ List.take (((s.length : Int) - 1).toNat - 0) (List.drop 0 (opens s)) = opens s_1.q.s ∧ ((i + 1 : Nat) : Int) = (s_1.i : Int) ∧ jOk p s_1 ∧ p.length + (4 + 3 * (p.length - s_1.i)) < p.length + (3 + 3 * (p.length - i)) := fun h => by
    clear gOpen gOther gElse gEnd fail bads rT rS
    obtain ⟨hne, e1, e2, hb⟩ := last (by omega)
    have a0 := hb.a0; have al := hb.al; have li := hb.li
    have hop : opener (at2 p i).op ≠ 0 := by
      rcases h with h | h
      · exact opn 22 21 h.1 rfl (by decide)
      · exact opn 14 13 h.1 rfl (by decide)
    have hl : (lst s).l = (lst s).a := Decidable.byContradiction fun x => by have := (hb.els x).2.1; omega
    have nb : ¬ msBad p i s := by
      rintro (x | x | ⟨x, _⟩)
      · exact hne x
      · apply x
        rw [← hl, ← e1]
        rcases h with h | h <;> rw [h.1, h.2] <;> rfl
      · omega
    obtain ⟨t, ht⟩ := Int.eq_ofNat_of_zero_le (show 0 ≤ (lst s).l by omega)
    have hset : ∀ j : Nat, at0 (((m.set i (-1)).set t i).set i (lst s).a) j = if i = j then (lst s).a else if (lst s).l = (j : Int) then (i : Int) else at0 m j := fun j => by
      rw [at0_set, List.length_set, List.length_set, k2, hset1 t ht (by omega)]
      by_cases e : i = j
      · rw [if_pos (by omega), if_pos e]
      · rw [if_neg (by omega), if_neg e, if_neg e]
    refine ⟨⟨⟨((m.set i (-1)).set t i).set i (lst s).a, s.take (s.length - 1)⟩, i + 1⟩, by rw [e2, hl, ← hl, ht]; rfl, tk, rfl, j_close hJ hi hne (by simp) hset (.inr rfl) ?_ (.inl rfl), hmeas⟩
    have := ms_back (m := m) hop nb (h.imp (·.1) (·.1))
    rw [ht] at this
    exact this
  have nb : ∀ {b : Bool}, (!b) = true → b = false := fun {b} h => by cases b <;> simp at h ⊢
  have yb : ∀ {b : Bool}, (!b) = false → b = true := fun {b} h => by cases b <;> simp at h ⊢
  rw [ein]
  refine ⟨ri, ?_⟩
  simp only [Bool.not_eq_true', Bool.not_eq_false', beq_iff_eq, beq_eq_false_iff_ne, ne_eq, Bool.false_eq_true, Bool.true_eq_false, false_implies, true_implies, forall_const, and_true, true_and, not_true_eq_false, not_false_eq_true]
  have hop0 : (at2 p i).op ≠ 19 → (at2 p i).op ≠ 20 → (at2 p i).op ≠ 22 → (at2 p i).op ≠ 14 → opener (at2 p i).op = 0 := fun q1 q2 q3 q4 => by
    clear gOpen gOther gElse gEnd gBack fail bads rT rS last
    rw [opener, if_neg (by omega), if_neg (by omega), if_neg (by omega)]
  repeat' (first | apply And.intro | intro _)
  all_goals first
    | exact ri.1
    | exact ri.2
    | exact zz
    | exact sz
    | exact (rT (by clear gOpen gOther gElse gEnd gBack fail bads rT rS last; omega)).1
    | exact (rT (by clear gOpen gOther gElse gEnd gBack fail bads rT rS last; omega)).2
    | exact (rS (by clear gOpen gOther gElse gEnd gBack fail bads rT rS last; omega)).1
    | exact (rS (by clear gOpen gOther gElse gEnd gBack fail bads rT rS last; omega)).2
    | exact Int.le_of_lt (rS (by clear gOpen gOther gElse gEnd gBack fail bads rT rS last; omega)).2
    | exact gOpen (by clear gOpen gOther gElse gEnd gBack fail bads rT rS last; omega)
    | exact gElse (by clear gOpen gOther gElse gEnd gBack fail bads rT rS last; omega) (by clear gOpen gOther gElse gEnd gBack fail bads rT rS last; omega)
    | exact gEnd (by clear gOpen gOther gElse gEnd gBack fail bads rT rS last; omega) (by clear gOpen gOther gElse gEnd gBack fail bads rT rS last; omega)
    | exact gBack (by clear gOpen gOther gElse gEnd gBack fail bads rT rS last; omega)
    | exact gOther (by clear gOpen gOther gElse gEnd gBack fail bads rT rS last; omega) (hop0 (by clear gOpen gOther gElse gEnd gBack fail bads rT rS last; omega) (by clear gOpen gOther gElse gEnd gBack fail bads rT rS last; omega) (by clear gOpen gOther gElse gEnd gBack fail bads rT rS last; omega) (by clear gOpen gOther gElse gEnd gBack fail bads rT rS last; omega))
    | exact (fail (by clear gOpen gOther gElse gEnd gBack fail bads rT rS last; omega)).1
    | exact (fail (by clear gOpen gOther gElse gEnd gBack fail bads rT rS last; omega)).2
    | (exfalso; clear gOpen gOther gElse gEnd gBack fail bads rT rS last; omega)
end
theorem rmOk : CtrOk1 F.S 59 (mkCtr rmD) :=
  mkCtr_paid (fn := Tryd.f59) (body := b59) (ctr := lookC []) codOk noExt hookLow noneOk Tryd.func59 rfl rfl rfl rmD 300 (fun (x : List Instr × Unit) => [(4, rmC4 x.1), (14, rmC14 x.1), (42, rmC42 x.1)]) (show 1 ≤ Tryd.f59.ntmps by decide) (show Tryd.f59.ntmps ≤ 512 by decide) (by kernel_rfl) (fun _ _ => ⟨rfl, rfl⟩)
    (fun (x : List Instr × Unit) hp => rm_e_ok hp) (fun (x : List Instr × Unit) hp p hm s hI => by
      simp only [List.mem_cons, List.not_mem_nil, or_false] at hm
      rcases hm with rfl | rfl | rfl
      · exact rm_4_ok hp s.q.m s.q.s s.i hI
      · exact rm_14_ok hp s.q.m s.q.s s.i hI.1 hI.2
      · exact rm_42_ok s.m s.b s.j hI.1 hI.2.1 hI.2.2.1 hI.2.2.2.1 hI.2.2.2.2.1 hI.2.2.2.2.2 hp)
end Go.Proofs.YtjboohjicdmidaaDoor

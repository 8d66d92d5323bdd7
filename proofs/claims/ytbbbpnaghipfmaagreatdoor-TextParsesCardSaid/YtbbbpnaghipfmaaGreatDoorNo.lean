/- text.number at any word: its contract is paid. -/
import Derived.Test.YtbbbpnaghipfmaaGreatDoorNm
namespace Go.Proofs.YtbbbpnaghipfmaaGreatDoor
open Go.RowKit Go.Am Go.Sy
set_option linter.unusedVariables false
set_option linter.unusedSimpArgs false

theorem nm_e (s : List UInt8) : Go.Sy.Tree.holds (entryX F (lookC l39) 400 Tryz.f39 b39 (nmF s) [.s s]) = ( (decide ((↑s.length : Int) ≥ (1 : Int)) = true → ((0 : Int) ≤ 0 ∧ (0 : Int) ≤ 1 ∧ (1 : Int) ≤ (↑s.length : Int))
 ∧ ((List.take (1 : Nat) (List.drop (0 : Nat) s) == [(45 : UInt8)]) = true → ((0 : Int) ≤ 1 ∧ (1 : Int) ≤ (↑s.length : Int) ∧ (↑s.length : Int) ≤ (↑s.length : Int)) ∧ ((List.take ((↑s.length : Int).toNat - 1) (List.drop
 (1 : Nat) s) == []) = true → (0 : Int) = (numT s).fst ∧ false = (numT s).snd ∧ True) ∧ ((List.take ((↑s.length : Int).toNat - 1) (List.drop (1 : Nat) s) == []) = false → ((0 : Int) ≤ 0 ∧ (0 : Int) < (↑(List.take
 ((↑s.length : Int).toNat - 1) (List.drop (1 : Nat) s)).length : Int)) ∧ (((↑((List.take ((↑s.length : Int).toNat - 1) (List.drop (1 : Nat) s)).getD (0 : Nat) (0 : UInt8)).toNat : Int) == 48) = true → ((!s == [(48 :
 UInt8)]) = true → (0 : Int) = (numT s).fst ∧ false = (numT s).snd ∧ True) ∧ ((!s == [(48 : UInt8)]) = false → ∃ (s_1 : Nat), s = s ∧ List.take ((↑s.length : Int).toNat - 1) (List.drop (1 : Nat) s) = digS s ∧ (0 : Int) =
 (↑s_1 : Int) ∧ (s_1 ≤ (digS s).length ∧ headB s = false ∧ (List.take s_1 (digS s)).all digitB = true) ∧ True)) ∧ (((↑((List.take ((↑s.length : Int).toNat - 1) (List.drop (1 : Nat) s)).getD (0 : Nat) (0 : UInt8)).toNat :
 Int) == 48) = false → ∃ (s_1 : Nat), s = s ∧ List.take ((↑s.length : Int).toNat - 1) (List.drop (1 : Nat) s) = digS s ∧ (0 : Int) = (↑s_1 : Int) ∧ (s_1 ≤ (digS s).length ∧ headB s = false ∧ (List.take s_1 (digS s)).all
 digitB = true) ∧ True))) ∧ ((List.take (1 : Nat) (List.drop (0 : Nat) s) == [(45 : UInt8)]) = false → ((s == []) = true → (0 : Int) = (numT s).fst ∧ false = (numT s).snd ∧ True) ∧ ((s == []) = false → ((0 : Int) ≤ 0 ∧ (0
 : Int) < (↑s.length : Int)) ∧ (((↑(s.getD (0 : Nat) (0 : UInt8)).toNat : Int) == 48) = true → ((!s == [(48 : UInt8)]) = true → (0 : Int) = (numT s).fst ∧ false = (numT s).snd ∧ True) ∧ ((!s == [(48 : UInt8)]) = false → ∃
 (s_1 : Nat), s = s ∧ s = digS s ∧ (0 : Int) = (↑s_1 : Int) ∧ (s_1 ≤ (digS s).length ∧ headB s = false ∧ (List.take s_1 (digS s)).all digitB = true) ∧ True)) ∧ (((↑(s.getD (0 : Nat) (0 : UInt8)).toNat : Int) == 48) =
 false → ∃ (s_1 : Nat), s = s ∧ s = digS s ∧ (0 : Int) = (↑s_1 : Int) ∧ (s_1 ≤ (digS s).length ∧ headB s = false ∧ (List.take s_1 (digS s)).all digitB = true) ∧ True)))) ∧ (decide ((↑s.length : Int) ≥ (1 : Int)) = false →
 ((s == []) = true → (0 : Int) = (numT s).fst ∧ false = (numT s).snd ∧ True) ∧ ((s == []) = false → ((0 : Int) ≤ 0 ∧ (0 : Int) < (↑s.length : Int)) ∧ (((↑(s.getD (0 : Nat) (0 : UInt8)).toNat : Int) == 48) = true → ((!s ==
 [(48 : UInt8)]) = true → (0 : Int) = (numT s).fst ∧ false = (numT s).snd ∧ True) ∧ ((!s == [(48 : UInt8)]) = false → ∃ (s_1 : Nat), s = s ∧ s = digS s ∧ (0 : Int) = (↑s_1 : Int) ∧ (s_1 ≤ (digS s).length ∧ headB s = false
 ∧ (List.take s_1 (digS s)).all digitB = true) ∧ True)) ∧ (((↑(s.getD (0 : Nat) (0 : UInt8)).toNat : Int) == 48) = false → ∃ (s_1 : Nat), s = s ∧ s = digS s ∧ (0 : Int) = (↑s_1 : Int) ∧ (s_1 ≤ (digS s).length ∧ headB s =
 false ∧ (List.take s_1 (digS s)).all digitB = true) ∧ True)))) := by kernel_rfl
theorem nm_5 (s : List UInt8) (k : Nat) : Go.Sy.Tree.holds (cutVC F (lookC l39) 400 Tryz.f39 b39 (nmF s) 5 (nmC s) k) = ( (decide ((↑k : Int) < (↑(digS s).length : Int)) = true → ((0 : Int) ≤ (↑k : Int) ∧ (↑k : Int) <
 (↑(digS s).length : Int)) ∧ (decide ((↑((digS s).getD (↑k : Int).toNat (0 : UInt8)).toNat : Int) < 48) = true → (0 : Int) = (numT s).fst ∧ false = (numT s).snd ∧ True) ∧ (decide ((↑((digS s).getD (↑k : Int).toNat (0 :
 UInt8)).toNat : Int) < 48) = false → ((0 : Int) ≤ (↑k : Int) ∧ (↑k : Int) < (↑(digS s).length : Int)) ∧ (decide ((↑((digS s).getD (↑k : Int).toNat (0 : UInt8)).toNat : Int) > 57) = true → (0 : Int) = (numT s).fst ∧ false
 = (numT s).snd ∧ True) ∧ (decide ((↑((digS s).getD (↑k : Int).toNat (0 : UInt8)).toNat : Int) > 57) = false → ∃ (s_1 : Nat), s = s ∧ digS s = digS s ∧ IntKind.i64.wrap ((↑k : Int) + 1) = (↑s_1 : Int) ∧ (s_1 ≤ (digS
 s).length ∧ headB s = false ∧ (List.take s_1 (digS s)).all digitB = true) ∧ (digS s).length - s_1 < (digS s).length - k ∧ True))) ∧ (decide ((↑k : Int) < (↑(digS s).length : Int)) = false → s.length ≤ 1000000 ∧ (okB s =
 true → numV s = (numT s).fst ∧ true = (numT s).snd ∧ True) ∧ (okB s = false → Lib.parseIntB (64 : Nat) s = Lib.NumEnd.range ∧ Lib.intSat (64 : Nat) s = (numT s).fst ∧ false = (numT s).snd ∧ True))) := by kernel_rfl

theorem digitB_is {c : UInt8} : digitB c = true ↔ 48 ≤ c.toNat ∧ c.toNat ≤ 57 := by
  simp only [digitB, Bool.and_eq_true, decide_eq_true_eq]
theorem uint_no (M : Nat) : ∀ (l : List UInt8) (acc : Nat), l.all digitB = true → Lib.parseUintM M acc l ≠ Lib.NumEnd.syntax
  | [], acc, _ => by simp [Lib.parseUintM]
  | c :: l, acc, h => by
    simp only [List.all_cons, Bool.and_eq_true] at h
    have hc := digitB_is.1 h.1
    rw [Lib.parseUintM, if_pos hc]
    split
    · simp
    · split
      · simp
      · exact uint_no M l _ h.2
/-- What is made of digits is a number, or too great a one. -/
theorem int_no {s : List UInt8} (hne : digS s ≠ []) (h : (digS s).all digitB = true) (hk : okB s = false) : Lib.parseIntB 64 s = .range := by
  cases s with
  | nil => exact absurd rfl hne
  | cons c r =>
    have key : Lib.parseUintB 64 (if c.toNat = 43 ∨ c.toNat = 45 then r else c :: r) ≠ Lib.NumEnd.syntax := by
      by_cases h45 : c = 45
      · subst h45
        have e : digS (45 :: r) = r := rfl
        rw [e] at hne h
        rw [if_pos (by right; rfl)]
        unfold Lib.parseUintB
        rw [if_neg hne]
        exact uint_no _ _ _ h
      · have e : digS (c :: r) = c :: r := by unfold digS; rw [if_neg (by simpa using h45)]
        rw [e] at h
        have h1 := h
        simp only [List.all_cons, Bool.and_eq_true] at h1
        have hc := digitB_is.1 h1.1
        rw [if_neg (by omega)]
        unfold Lib.parseUintB
        rw [if_neg (by simp)]
        exact uint_no _ _ _ h
    unfold okB at hk
    unfold Lib.parseIntB at hk ⊢
    simp only at hk ⊢
    generalize Lib.parseUintB 64 (if c.toNat = 43 ∨ c.toNat = 45 then r else c :: r) = e at hk key ⊢
    rcases e with u | _ | _
    · simp only at hk ⊢
      by_cases h1 : ¬c.toNat = 45 ∧ 2 ^ (64 - 1) ≤ u
      · rw [if_pos h1]
      · rw [if_neg h1] at hk ⊢
        by_cases h2 : c.toNat = 45 ∧ 2 ^ (64 - 1) < u
        · rw [if_pos h2]
        · rw [if_neg h2] at hk
          exact nomatch hk
    · exact absurd rfl key
    · rfl
theorem take_all (s : List UInt8) : List.take ((s.length : Int).toNat - 1) (List.drop 1 s) = s.drop 1 := by
  rw [Int.toNat_natCast]
  exact List.take_of_length_le (by rw [List.length_drop]; exact Nat.le_refl _)
theorem byte48 (c : UInt8) : ((c.toNat : Int) == 48) = (c == 48) := by
  by_cases h : c = 48
  · subst h; rfl
  · have h1 : (c == 48) = false := by simpa using h
    rw [h1]
    have : ¬ (c.toNat : Int) = 48 := fun e => h (UInt8.toNat_inj.1 (by have h2 : (48 : UInt8).toNat = 48 := rfl; omega))
    simpa using this
theorem numT_head {s : List UInt8} (h : headB s = true) : numT s = (0, false) := if_pos h
theorem nm_e_ok (s : List UInt8) (hs : s.length ≤ 100000) : Paid (entryX F (lookC l39) 400 Tryz.f39 b39 (nmF s) [.s s]) := by
  refine ⟨?_⟩
  rw [nm_e, take_all, byte48, byte48]
  have fin : ∀ t : List UInt8, t = digS s → headB s = false → ∃ s_1 : Nat, s = s ∧ t = digS s ∧ (0 : Int) = (s_1 : Int) ∧ (s_1 ≤ (digS s).length ∧ headB s = false ∧ ((digS s).take s_1).all digitB = true) ∧ True := fun t e h => ⟨0, rfl, e, rfl, ⟨Nat.zero_le _, h, rfl⟩, trivial⟩
  have bad : headB s = true → (0 : Int) = (numT s).1 ∧ false = (numT s).2 ∧ True := fun h => by rw [numT_head h]; exact ⟨rfl, rfl, trivial⟩
  have low : s.take 1 ≠ [45] → ((s == []) = true → (0 : Int) = (numT s).1 ∧ false = (numT s).2 ∧ True) ∧ ((s == []) = false →
      ((0 : Int) ≤ 0 ∧ (0 : Int) < s.length) ∧ ((s.getD 0 0 == 48) = true → ((!s == [48]) = true → (0 : Int) = (numT s).1 ∧ false = (numT s).2 ∧ True) ∧ ((!s == [48]) = false → ∃ s_1 : Nat, s = s ∧ s = digS s ∧ (0 : Int) = (s_1 : Int) ∧ (s_1 ≤ (digS s).length ∧ headB s = false ∧ ((digS s).take s_1).all digitB = true) ∧ True)) ∧
        ((s.getD 0 0 == 48) = false → ∃ s_1 : Nat, s = s ∧ s = digS s ∧ (0 : Int) = (s_1 : Int) ∧ (s_1 ≤ (digS s).length ∧ headB s = false ∧ ((digS s).take s_1).all digitB = true) ∧ True)) := by
    intro h45
    have hd : digS s = s := by unfold digS; rw [if_neg h45]
    refine ⟨fun h => bad (by rw [headB, hd, h, Bool.true_or]), fun h => ⟨⟨by omega, ?_⟩, fun g => ⟨fun g2 => bad (by rw [headB, hd, h, g, g2]; rfl), fun g2 => fin s hd.symm (by rw [headB, hd, h, g, g2]; rfl)⟩, fun g => fin s hd.symm (by rw [headB, hd, h, g]; rfl)⟩⟩
    have h : s ≠ [] := by simpa using h
    have := List.length_pos_iff.2 h
    omega
  refine ⟨fun g => ⟨⟨by omega, by omega, of_decide_eq_true g⟩, fun h => ?_, fun h => low (by simpa using h)⟩, fun g => low ?_⟩
  · have h45 : s.take 1 = [45] := by simpa using h
    have hd : digS s = s.drop 1 := by unfold digS; rw [if_pos h45]
    simp only [decide_eq_true_eq] at g
    refine ⟨⟨by omega, by omega, by omega⟩, fun h => bad (by rw [headB, hd, h, Bool.true_or]), fun h => ⟨⟨by omega, ?_⟩, fun g => ⟨fun g2 => bad (by rw [headB, hd, h, g, g2]; rfl), fun g2 => fin _ hd.symm (by rw [headB, hd, h, g, g2]; rfl)⟩, fun g => fin _ hd.symm (by rw [headB, hd, h, g]; rfl)⟩⟩
    have h : s.drop 1 ≠ [] := by simpa using h
    have := List.length_pos_iff.2 h
    omega
  · simp only [decide_eq_false_iff_not] at g
    intro h
    have : s = [] := List.eq_nil_of_length_eq_zero (by omega)
    rw [this] at h
    simp at h
theorem nm_5_ok (s : List UInt8) (hs : s.length ≤ 100000) (k : Nat) (hk : k ≤ (digS s).length) (hh : headB s = false) (ha : ((digS s).take k).all digitB = true) : Paid (cutVC F (lookC l39) 400 Tryz.f39 b39 (nmF s) 5 (nmC s) k) := by
  refine ⟨?_⟩
  rw [nm_5]
  have hd : (digS s).length ≤ s.length := by
    unfold digS
    split
    · rw [List.length_drop]; omega
    · exact Nat.le_refl _
  refine ⟨fun h => ?_, fun h => ?_⟩
  · simp only [decide_eq_true_eq] at h
    have hlt : k < (digS s).length := by omega
    have e : (digS s).getD (k : Int).toNat 0 = (digS s)[k] := by
      rw [Int.toNat_natCast, List.getD_eq_getElem?_getD, List.getElem?_eq_getElem hlt]; rfl
    rw [e]
    have bad : digitB (digS s)[k] = false → (0 : Int) = (numT s).1 ∧ false = (numT s).2 ∧ True := fun hb => by
      have hall : (digS s).all digitB = false := by
        rw [Bool.eq_false_iff]
        intro h2
        rw [List.all_eq_true.1 h2 _ (List.getElem_mem hlt)] at hb
        exact nomatch hb
      have e : numT s = (0, false) := by rw [numT, hh, hall]; rfl
      rw [e]
      exact ⟨rfl, rfl, trivial⟩
    refine ⟨⟨by omega, h⟩, fun g => bad ?_, fun g => ⟨⟨by omega, h⟩, fun g2 => bad ?_, fun g2 => ⟨k + 1, rfl, rfl, ?_, ⟨hlt, hh, ?_⟩, by omega, trivial⟩⟩⟩
    · simp only [decide_eq_true_eq] at g
      rw [Bool.eq_false_iff]
      intro h2
      have := digitB_is.1 h2
      omega
    · simp only [decide_eq_true_eq] at g2
      rw [Bool.eq_false_iff]
      intro h2
      have := digitB_is.1 h2
      omega
    · rw [wrap64 (by omega) (by omega)]; rfl
    · simp only [decide_eq_false_iff_not] at g g2
      rw [List.take_succ_eq_append_getElem hlt, List.all_append, ha, List.all_cons, digitB_is.2 ⟨by omega, by omega⟩]
      rfl
  · simp only [decide_eq_false_iff_not] at h
    have hkk : k = (digS s).length := by omega
    rw [hkk, List.take_length] at ha
    have hne : digS s ≠ [] := by
      intro e
      rw [headB, e] at hh
      exact nomatch hh
    refine ⟨by omega, fun g => ?_, fun g => ⟨int_no hne ha g, ?_⟩⟩
    · have e : numT s = (numV s, true) := by rw [numT, hh, ha, g]; rfl
      rw [e]
      exact ⟨rfl, rfl, trivial⟩
    · have e : numT s = (Lib.intSat 64 s, false) := by rw [numT, hh, ha, g]; rfl
      rw [e]
      exact ⟨rfl, rfl, trivial⟩
theorem l39Ok : CtrOk F.S (lookC l39) := lookC_ok fun p h => by
  have h : p ∈ [_] := h
  rw [List.mem_singleton] at h
  subst h
  exact pintOk
theorem nmOk : CtrOk1 F.S 39 (mkCtr nmD) :=
  mkCtr_paid (fn := Tryz.f39) (body := b39) (ctr := lookC l39) codOk noExt hookLow l39Ok Tryz.func39 rfl rfl rfl nmD 400 (fun (x : List UInt8 × Unit) => [(5, nmC x.1)]) (show 1 ≤ Tryz.f39.ntmps by decide) (show Tryz.f39.ntmps ≤ 512 by decide) (by kernel_rfl) (fun _ _ => ⟨rfl, rfl⟩)
    (fun (x : List UInt8 × Unit) hp => nm_e_ok x.1 hp) (fun (x : List UInt8 × Unit) hp p hm s hI => by
      simp only [List.mem_singleton] at hm
      subst hm
      exact nm_5_ok x.1 hp s hI.1 hI.2.1 hI.2.2)
end Go.Proofs.YtbbbpnaghipfmaaGreatDoor

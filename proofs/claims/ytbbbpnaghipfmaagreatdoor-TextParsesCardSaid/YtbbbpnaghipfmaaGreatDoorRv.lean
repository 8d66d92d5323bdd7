/- The document's own Parse: its contract is paid. -/
import Derived.Test.YtbbbpnaghipfmaaGreatDoorRu
namespace Go.Proofs.YtbbbpnaghipfmaaGreatDoor
open Go.RowKit Go.Am Go.Sy
set_option linter.unusedVariables false
set_option linter.unusedSimpArgs false

theorem pr_e_ok (s : List UInt8) : Paid (entryX F (lookC l13) 600 Tryz.f13 b13 (prF s (parseS refO s).2.1 (parseS refO s).2.2 (parseS refO s).1) [.s s]) := by
  refine ⟨?_⟩
  rw [pr_e]
  refine ⟨fun h => ?_, fun h => ⟨⟨0, 0, 0, []⟩, rfl, rfl, rfl, rfl, rfl, ⟨?_, Nat.zero_le _, Nat.le_refl _, .inl ⟨Nat.zero_le _, Nat.le_refl _, by simp, rfl⟩⟩, trivial⟩⟩
  · simp only [gt_iff_lt, decide_eq_true_eq] at h
    have e : parseS refO s = ([], 4, 0) := by unfold parseS; rw [if_pos (by omega)]
    rw [e]
    exact ⟨rfl, rfl, rfl, trivial⟩
  · simp only [gt_iff_lt, decide_eq_false_iff_not] at h
    omega
/-- One line of the text. -/
theorem parse_line {w : List UInt8} {ls : List (List UInt8)} {n : Nat} {p : List Ins} : parseG refO (w :: ls) n p = if w = [] then parseG refO ls (n + 1) p else if 48 ≤ p.length then ([], 4, (n : Int) + 1) else if (insR (wordsR w)).2 = true then parseG refO ls (n + 1) (p ++ [(insR (wordsR w)).1]) else ([], 3, (n : Int) + 1) := by
  rw [parseG]
  by_cases h : (insR (wordsR w)).2 = true
  · rw [refO, if_pos h, if_pos h]
  · rw [refO, if_neg h, if_neg h]
/-- What a line's end comes to. -/
theorem pr_line {s w : List UInt8} {ls : List (List UInt8)} {n : Nat} {p : List Ins} {R S : Prop} (hp : p.length ≤ 48) (hw : w.length ≤ 20000) (hs : s.length ≤ 20000) (hG : parseG refO (w :: ls) n p = parseS refO s)
    (h1 : parseG refO ls (n + 1) p = parseS refO s → w = [] → R) (h2 : ∀ i, i = (insR (wordsR w)).1 → parseG refO ls (n + 1) (p ++ [i]) = parseS refO s → p.length < 48 → S) :
    ((!w == []) = true → ((((p.length : Int) == 48) = true → [] = (parseS refO s).1 ∧ (4 : Int) = (parseS refO s).2.1 ∧ (n : Int) + 1 = (parseS refO s).2.2 ∧ True) ∧ (((p.length : Int) == 48) = false → irD.pre (w, ()) ∧
      ((!(insR (wordsR w)).2) = true → [] = (parseS refO s).1 ∧ (3 : Int) = (parseS refO s).2.1 ∧ (n : Int) + 1 = (parseS refO s).2.2 ∧ True) ∧ ((!(insR (wordsR w)).2) = false → S)))) ∧ ((!w == []) = false → R) := by
  rw [parse_line] at hG
  refine ⟨fun h => ?_, fun h => ?_⟩
  · have hne : ¬ w = [] := by simpa using h
    rw [if_neg hne] at hG
    refine ⟨fun g => ?_, fun g => ⟨hw, fun q => ?_, fun q => ?_⟩⟩
    · rw [if_pos (by have := eq_of_beq g; omega)] at hG
      rw [← hG]
      exact ⟨rfl, rfl, rfl, trivial⟩
    · have e : (insR (wordsR w)).2 = false := by simpa using q
      rw [if_neg (by have := ne_of_beq_false g; omega), if_neg (by rw [e]; exact Bool.false_ne_true)] at hG
      rw [← hG]
      exact ⟨rfl, rfl, rfl, trivial⟩
    · have e : (insR (wordsR w)).2 = true := by simpa using q
      have hlt : p.length < 48 := by have := ne_of_beq_false g; omega
      rw [if_neg (by omega), if_pos e] at hG
      exact h2 _ rfl hG hlt
  · have he : w = [] := by simpa using h
    rw [if_pos he] at hG
    exact h1 hG he
theorem pr_6_ok (s : List UInt8) (k f n : Nat) (p : List Ins) (hI : prI s ⟨k, f, n, p⟩) : Paid (cutVC F (lookC l13) 600 Tryz.f13 b13 (prF s (parseS refO s).2.1 (parseS refO s).2.2 (parseS refO s).1) 6 (prC s) ⟨k, f, n, p⟩) := by
  refine ⟨?_⟩
  rw [pr_6]
  obtain ⟨hs, hp, hn, hI⟩ := hI
  have hp : p.length ≤ 48 := hp
  have hn : n ≤ k := hn
  have e0 : parseS refO s = parseG refO (splitL 10 s) 0 [] := by unfold parseS; rw [if_neg (by omega)]
  rcases hI with ⟨hk, hf, hno, he⟩ | ⟨hk, he⟩
  · have hk : k ≤ s.length := hk
    have hf : f ≤ k := hf
    have hno : (10 : UInt8) ∉ (s.drop f).take (k - f) := hno
    have he : parseG refO (splitL 10 (s.drop f)) n p = parseG refO (splitL 10 s) 0 [] := he
    rw [← e0] at he
    have hw : IntKind.i64.wrap ((k : Int) + 1) = ((k + 1 : Nat) : Int) := by rw [wrap64 (by omega) (by omega)]; rfl
    have hwn : IntKind.i64.wrap ((n : Int) + 1 + 1) = ((n + 1 : Nat) : Int) + 1 := by rw [wrap64 (by omega) (by omega)]; rfl
    have hsl := seg_len hf hk
    rw [hw, hwn, Int.toNat_natCast, Int.toNat_natCast]
    have hin : (0 : Int) ≤ (f : Int) ∧ (f : Int) ≤ (k : Int) ∧ (k : Int) ≤ (s.length : Int) := ⟨by omega, by omega, by omega⟩
    refine ⟨fun h => ⟨fun h1 => ⟨⟨by omega, by simpa using h1⟩, fun h2 => ?_, fun h2 => ⟨hin, ?_⟩⟩, fun h1 => ⟨hin, ?_⟩⟩, fun h => ?_⟩
    · have hlt : k < s.length := by simp only [decide_eq_true_eq] at h1; omega
      rw [getD_get hlt] at h2
      refine ⟨⟨k + 1, f, n, p⟩, rfl, rfl, rfl, rfl, rfl, ⟨hs, hp, by show n ≤ k + 1; omega, .inl ⟨hlt, by show f ≤ k + 1; omega, ?_, by rw [← e0]; exact he⟩⟩, by show s.length + 1 - (k + 1) < s.length + 1 - k; omega, trivial⟩
      show (10 : UInt8) ∉ (s.drop f).take (k + 1 - f)
      rw [seg_snoc hf hlt]
      intro e
      rcases List.mem_append.1 e with e | e
      · exact hno e
      · rw [← List.mem_singleton.1 e] at h2
        simp at h2
    · have hlt : k < s.length := by simp only [decide_eq_true_eq] at h1; omega
      rw [getD_get hlt] at h2
      have h2 : s[k] = 10 := byte_eq (c := 10) (by simpa using h2)
      rw [split_at hf hlt hno h2] at he
      generalize (s.drop f).take (k - f) = w at *
      refine pr_line (s := s) hp (by omega) hs he (fun hg _ => ⟨⟨k + 1, k + 1, n + 1, p⟩, rfl, rfl, rfl, rfl, rfl, ⟨hs, hp, by show n + 1 ≤ k + 1; omega, .inl ⟨hlt, Nat.le_refl _, by simp, by rw [← e0]; exact hg⟩⟩, by show s.length + 1 - (k + 1) < s.length + 1 - k; omega, trivial⟩) (fun i hi hg hlt48 => ?_)
      subst hi
      exact ⟨by simp only [List.length_cons, List.length_nil]; omega, ⟨k + 1, k + 1, n + 1, _⟩, rfl, rfl, rfl, rfl, rfl, ⟨hs, by simp only [List.length_append, List.length_cons, List.length_nil]; omega, by show n + 1 ≤ k + 1; omega, .inl ⟨hlt, Nat.le_refl _, by simp, by rw [← e0]; exact hg⟩⟩, by show s.length + 1 - (k + 1) < s.length + 1 - k; omega, trivial⟩
    · have hkk : k = s.length := by simp only [decide_eq_false_iff_not] at h1; omega
      rw [hkk] at hno
      rw [split_end hno, ← hkk] at he
      generalize (s.drop f).take (k - f) = w at *
      refine pr_line (s := s) hp (by omega) hs he (fun hg _ => ⟨⟨k + 1, k + 1, n + 1, p⟩, rfl, rfl, rfl, rfl, rfl, ⟨hs, hp, by show n + 1 ≤ k + 1; omega, .inr ⟨by show k + 1 = s.length + 1; omega, by rw [← e0]; exact hg.symm⟩⟩, by show s.length + 1 - (k + 1) < s.length + 1 - k; omega, trivial⟩) (fun i hi hg hlt48 => ?_)
      subst hi
      exact ⟨by simp only [List.length_cons, List.length_nil]; omega, ⟨k + 1, k + 1, n + 1, _⟩, rfl, rfl, rfl, rfl, rfl, ⟨hs, by simp only [List.length_append, List.length_cons, List.length_nil]; omega, by show n + 1 ≤ k + 1; omega, .inr ⟨by show k + 1 = s.length + 1; omega, by rw [← e0]; exact hg.symm⟩⟩, by show s.length + 1 - (k + 1) < s.length + 1 - k; omega, trivial⟩
    · simp only [decide_eq_false_iff_not] at h
      omega
  · have hk : k = s.length + 1 := hk
    have he : parseG refO (splitL 10 s) 0 [] = (p, 0, 0) := he
    rw [e0, he]
    refine ⟨fun h => ?_, fun h => ⟨rfl, rfl, rfl, trivial⟩⟩
    simp only [decide_eq_true_eq] at h
    omega
theorem l13Ok : CtrOk F.S (lookC l13) := lookC_ok fun p h => by
  simp only [l13, List.mem_cons, List.not_mem_nil, or_false] at h
  subst h
  exact irOk
noncomputable def refParseCtr : Ctr cod := mkCtrT3 (C := cod) [.str] (fun (x : List UInt8 × Unit) => True) 2 (fun (x : List UInt8 × Unit) => (parseS refO x.1).1) (fun (x : List UInt8 × Unit) => (parseS refO x.1).2.1) (fun (x : List UInt8 × Unit) => (parseS refO x.1).2.2)
theorem refParseOk : CtrOk1 F.S 13 refParseCtr :=
  mkCtrT3_paid (fn := Tryz.f13) (body := b13) (ctr := lookC l13) codOk noExt hookLow l13Ok Tryz.func13 rfl (by kernel_rfl) (by kernel_rfl) [.str] (fun (x : List UInt8 × Unit) => True) 2 (fun (x : List UInt8 × Unit) => (parseS refO x.1).1) (fun (x : List UInt8 × Unit) => (parseS refO x.1).2.1) (fun (x : List UInt8 × Unit) => (parseS refO x.1).2.2) true 0 plain2 600 (fun (x : List UInt8 × Unit) => [(6, prC x.1)]) (show 1 ≤ Tryz.f13.ntmps by decide) (show Tryz.f13.ntmps ≤ 512 by decide) (by kernel_rfl)
    (fun (x : List UInt8 × Unit) h => pr_e_ok x.1) (fun (x : List UInt8 × Unit) h q hm y hI => by
      simp only [List.mem_singleton] at hm
      subst hm
      exact pr_6_ok x.1 y.k y.f y.n y.q hI)
end Go.Proofs.YtbbbpnaghipfmaaGreatDoor

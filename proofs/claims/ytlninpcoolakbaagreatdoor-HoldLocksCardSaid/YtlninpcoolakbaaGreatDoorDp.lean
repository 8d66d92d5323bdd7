/- syncoperef2.Decimal: its contract is paid. -/
import Derived.Test.YtlninpcoolakbaaGreatDoorDc
namespace Go.Proofs.YtlninpcoolakbaaGreatDoor
open Go.RowKit Go.Am Go.Sy
set_option linter.unusedVariables false
theorem dc_e (n : Int) : Go.Sy.Tree.holds (entryX F (fun _ => none) 200 Tryz.f23 b23 (decF n) [.i .i64 n]) = ( (decide (n < 0) = true → ∃ (s : DcS), n = n ∧ IntKind.u64.wrap ((0 : Int) - IntKind.u64.wrap n) = (↑s.u : Int)
 ∧ [] = s.s ∧ (s.u < 18446744073709551616 ∧ s.s.length + (digits s.u).length ≤ 20 ∧ (s.s = [] ∧ s.u = mag n ∨ s.s ≠ [] ∧ digits s.u ++ s.s = decN (mag n))) ∧ True) ∧ (decide (n < 0) = false → ∃ (s : DcS), n = n ∧
 IntKind.u64.wrap n = (↑s.u : Int) ∧ [] = s.s ∧ (s.u < 18446744073709551616 ∧ s.s.length + (digits s.u).length ≤ 20 ∧ (s.s = [] ∧ s.u = mag n ∨ s.s ≠ [] ∧ digits s.u ++ s.s = decN (mag n))) ∧ True)) := by kernel_rfl
theorem dc_c (n : Int) (u : Nat) (s : List UInt8) : Go.Sy.Tree.holds (cutVC F (fun _ => none) 200 Tryz.f23 b23 (decF n) 4 (decC n) ⟨u, s⟩) = ( (decide ((↑u : Int) > 0) = true → (↑([UInt8.ofNat (IntKind.u8.wrap
 (IntKind.u64.wrap ((48 : Int) + (↑u : Int).tmod 10))).toNat].length + s.length) : Int) ≤ 9223372036854775807 ∧ ∃ (s_1 : DcS), n = n ∧ IntKind.u64.wrap ((↑u : Int).tdiv 10) = (↑s_1.u : Int) ∧ [UInt8.ofNat (IntKind.u8.wrap
 (IntKind.u64.wrap ((48 : Int) + (↑u : Int).tmod 10))).toNat] ++ s = s_1.s ∧ (s_1.u < 18446744073709551616 ∧ s_1.s.length + (digits s_1.u).length ≤ 20 ∧ (s_1.s = [] ∧ s_1.u = mag n ∨ s_1.s ≠ [] ∧ digits s_1.u ++ s_1.s =
 decN (mag n))) ∧ ((if s_1.s = [] then (1000000000000000000000 : Nat) else s_1.u) < if s = [] then (1000000000000000000000 : Nat) else u) ∧ True) ∧ (decide ((↑u : Int) > 0) = false → ((s == []) = true → (↑([UInt8.ofNat
 (IntKind.u8.wrap (IntKind.u64.wrap ((48 : Int) + (↑u : Int).tmod 10))).toNat].length + s.length) : Int) ≤ 9223372036854775807 ∧ ∃ (s_1 : DcS), n = n ∧ IntKind.u64.wrap ((↑u : Int).tdiv 10) = (↑s_1.u : Int) ∧ [UInt8.ofNat
 (IntKind.u8.wrap (IntKind.u64.wrap ((48 : Int) + (↑u : Int).tmod 10))).toNat] ++ s = s_1.s ∧ (s_1.u < 18446744073709551616 ∧ s_1.s.length + (digits s_1.u).length ≤ 20 ∧ (s_1.s = [] ∧ s_1.u = mag n ∨ s_1.s ≠ [] ∧ digits
 s_1.u ++ s_1.s = decN (mag n))) ∧ ((if s_1.s = [] then (1000000000000000000000 : Nat) else s_1.u) < if s = [] then (1000000000000000000000 : Nat) else u) ∧ True) ∧ ((s == []) = false → (decide (n < 0) = true → (↑([(45 :
 UInt8)].length + s.length) : Int) ≤ 9223372036854775807 ∧ [(45 : UInt8)] ++ s = decS n ∧ True) ∧ (decide (n < 0) = false → s = decS n ∧ True)))) := by kernel_rfl
theorem wrapU64 {n : Int} (h0 : 0 ≤ n) (h1 : n < 18446744073709551616) : IntKind.u64.wrap n = n := by
  simp only [IntKind.wrap, IntKind.signed, IntKind.bits]
  simp
  omega
theorem wrapU8 {n : Int} (h0 : 0 ≤ n) (h1 : n < 256) : IntKind.u8.wrap n = n := by
  simp only [IntKind.wrap, IntKind.signed, IntKind.bits]
  simp
  omega
theorem wrapU64_is (n : Int) : 0 ≤ IntKind.u64.wrap n ∧ IntKind.u64.wrap n < 18446744073709551616 := by
  simp only [IntKind.wrap, IntKind.signed, IntKind.bits]
  simp
  omega
theorem mag_lt (n : Int) : mag n < 18446744073709551616 := by
  unfold mag
  have h1 := wrapU64_is n
  have h2 := wrapU64_is (0 - IntKind.u64.wrap n)
  split <;> omega
theorem digits_zero : digits 0 = [] := by rw [digits]; simp
theorem digits_step {u : Nat} (h : 0 < u) : digits u = digits (u / 10) ++ [UInt8.ofNat (48 + u % 10)] := by
  rw [digits, dif_neg (by omega)]
theorem digits_len : ∀ (k u : Nat), u < 10 ^ k → (digits u).length ≤ k
  | 0, u, h => by
    have : u = 0 := by simpa using h
    subst this
    rw [digits_zero]
    exact Nat.le_refl _
  | k + 1, u, h => by
    rcases Nat.eq_zero_or_pos u with rfl | h0
    · rw [digits_zero]; exact Nat.zero_le _
    · rw [digits_step h0, List.length_append]
      have := digits_len k (u / 10) (by rw [Nat.pow_succ] at h; omega)
      simp only [List.length_cons, List.length_nil]
      omega
theorem mag_digits (n : Int) : (digits (mag n)).length ≤ 20 := digits_len 20 _ (by have := mag_lt n; omega)
theorem digit_byte (u : Nat) : UInt8.ofNat (IntKind.u8.wrap (IntKind.u64.wrap ((48 : Int) + (↑u : Int).tmod (10 : Int)))).toNat = UInt8.ofNat (48 + u % 10) := by
  have e : (↑u : Int).tmod 10 = ((u % 10 : Nat) : Int) := by
    rw [Int.tmod_eq_emod_of_nonneg (by omega)]
    omega
  have h : u % 10 < 10 := Nat.mod_lt _ (by decide)
  rw [e, wrapU64 (by omega) (by omega), wrapU8 (by omega) (by omega)]
  congr 1
theorem dc_e_ok (n : Int) : Go.Sy.Tree.holds (entryX F (fun _ => none) 200 Tryz.f23 b23 (decF n) [.i .i64 n]) := by
  rw [dc_e]
  have h1 := wrapU64_is n
  have h2 := wrapU64_is (0 - IntKind.u64.wrap n)
  have fin : ∀ x : Int, 0 ≤ x → x.toNat = mag n → ∃ (s : DcS), n = n ∧ x = (↑s.u : Int) ∧ #[].toList = s.s ∧ (s.u < (18446744073709551616 : Nat) ∧ s.s.length + (digits s.u).length ≤ (20 : Nat) ∧
      (s.s = [] ∧ s.u = mag n ∨ s.s ≠ [] ∧ digits s.u ++ s.s = decN (mag n))) ∧ True := by
    intro x hx e
    refine ⟨⟨mag n, []⟩, rfl, ?_, rfl, ⟨mag_lt n, ?_, .inl ⟨rfl, rfl⟩⟩, trivial⟩
    · show x = ((mag n : Nat) : Int)
      omega
    · have := mag_digits n
      simpa using this
  refine ⟨fun h => fin _ h2.1 ?_, fun h => fin _ h1.1 ?_⟩
  · simp only [decide_eq_true_eq] at h
    rw [mag, if_pos h]
  · simp only [decide_eq_false_iff_not] at h
    rw [mag, if_neg h]
theorem dc_c_ok (n : Int) (s : DcS) (hI : s.u < 18446744073709551616 ∧ s.s.length + (digits s.u).length ≤ 20 ∧ ((s.s = [] ∧ s.u = mag n) ∨ (s.s ≠ [] ∧ digits s.u ++ s.s = decN (mag n)))) : Go.Sy.Tree.holds (cutVC F (fun _ => none) 200 Tryz.f23 b23 (decF n) 4 (decC n) s) := by
  obtain ⟨u, s⟩ := s
  obtain ⟨h1, h2, h3⟩ := hI
  simp only at h1 h2 h3
  rw [dc_c, digit_byte]
  have step : (0 < u ∨ s = []) → ((↑([UInt8.ofNat (48 + u % 10)].length + s.length) : Int) ≤ 9223372036854775807 ∧ ∃ (s_1 : DcS), n = n ∧ IntKind.u64.wrap ((↑u : Int).tdiv (10 : Int)) = (↑s_1.u : Int) ∧
      [UInt8.ofNat (48 + u % 10)] ++ s = s_1.s ∧ (s_1.u < (18446744073709551616 : Nat) ∧ s_1.s.length + (digits s_1.u).length ≤ (20 : Nat) ∧ (s_1.s = [] ∧ s_1.u = mag n ∨ s_1.s ≠ [] ∧ digits s_1.u ++ s_1.s = decN (mag n))) ∧
      ((if s_1.s = [] then (1000000000000000000000 : Nat) else s_1.u) < if s = [] then (1000000000000000000000 : Nat) else u) ∧ True) := by
    intro h0
    have e : (↑u : Int).tdiv 10 = ((u / 10 : Nat) : Int) := by
      rw [Int.tdiv_eq_ediv_of_nonneg (by omega)]
      omega
    refine ⟨by simp only [List.length_cons, List.length_nil]; omega, ⟨u / 10, UInt8.ofNat (48 + u % 10) :: s⟩, rfl, ?_, rfl, ⟨show u / 10 < 18446744073709551616 by omega, ?_, .inr ⟨by simp, ?_⟩⟩, ?_, trivial⟩
    · rw [e]
      exact wrapU64 (by omega) (by omega)
    · rcases Nat.eq_zero_or_pos u with rfl | hu
      · have : s = [] := h0.resolve_left (by omega)
        subst this
        simp only [digits_zero, Nat.zero_div, List.length_cons, List.length_nil]
        omega
      · rw [digits_step hu, List.length_append] at h2
        simp only [List.length_cons, List.length_nil] at h2 ⊢
        omega
    · rcases Nat.eq_zero_or_pos u with rfl | hu
      · have : s = [] := h0.resolve_left (by omega)
        subst this
        have hm : mag n = 0 := by
          rcases h3 with h | h
          · exact h.2.symm
          · exact (h.1 rfl).elim
        rw [hm, decN, if_pos rfl]
        simp only [Nat.zero_div, digits_zero]
        rfl
      · have e2 : digits (u / 10) ++ UInt8.ofNat (48 + u % 10) :: s = digits u ++ s := by rw [digits_step hu]; simp
        rw [e2]
        rcases h3 with h | h
        · rw [h.1, List.append_nil, ← h.2, decN, if_neg (by omega)]
        · exact h.2
    · rw [if_neg (by simp)]
      split
      · show u / 10 < _
        omega
      · have : 0 < u := h0.resolve_right (by assumption)
        show u / 10 < u
        omega
  refine ⟨fun h => step (.inl (by simpa using h)), fun h => ⟨fun h' => step (.inr (by simpa using h')), fun h' => ?_⟩⟩
  have hu : u = 0 := by simp at h; omega
  have hs : s ≠ [] := by simpa using h'
  subst hu
  have hd : s = decN (mag n) := by
    rcases h3 with h | h
    · exact (hs h.1).elim
    · simpa [digits_zero] using h.2
  simp only [digits_zero, List.length_nil] at h2
  refine ⟨fun h => ⟨?_, ?_, trivial⟩, fun h => ⟨?_, trivial⟩⟩
  · simp only [List.length_cons, List.length_nil]
    omega
  · simp only [decide_eq_true_eq] at h
    rw [decS, if_pos h, ← hd]
    rfl
  · simp only [decide_eq_false_iff_not] at h
    rw [decS, if_neg h, ← hd]
set_option maxRecDepth 10000 in
theorem decOk : CtrOk1 F.S 23 (mkCtr decD) :=
  mkCtr_ok (fn := Tryz.f23) (body := b23) (ctr := fun _ => none) codOk noExt hookLow (fun f c h => by cases h) Tryz.func23 rfl rfl rfl decD 200 (fun (x : Int × Unit) => [(4, decC x.1)]) (show 1 ≤ 32 by decide) (show 32 ≤ 512 by decide) (by kernel_rfl) (fun _ _ => ⟨rfl, rfl⟩)
    (fun x hp => dc_e_ok x.1)
    (fun (x : Int × Unit) hp p hm s hI => by
      have hm : p = (4, decC x.1) := by simpa using hm
      subst hm
      exact dc_c_ok x.1 s hI)
end Go.Proofs.YtlninpcoolakbaaGreatDoor

/- strconv.Itoa: its contract is paid. -/
import Derived.Test.YtomlcdalhihnaaaDoorIs
namespace Go.Proofs.YtomlcdalhihnaaaDoor
open Go.RowKit Go.Am Go.Sy
set_option linter.unusedVariables false

theorem fi_e (n : Int) : Go.Sy.Tree.holds (entryX F (lookC m1) 200 Tryd.f46 b46 (fiF n) [.i .i64 n, .a (.int .i64 10)]) = ( (decide ((0 : Int) ≤ n) = true → (decide (n < (100 : Int)) = true → (decide (n < (10 : Int)) =
 true → ((0 : Int) ≤ n ∧ n ≤ IntKind.i64.wrap (n + (1 : Int)) ∧ IntKind.i64.wrap (n + (1 : Int)) ≤ (36 : Int)) ∧ List.take ((IntKind.i64.wrap (n + (1 : Int))).toNat - n.toNat) (List.drop n.toNat tab2) = decS n ∧ True) ∧
 (decide (n < (10 : Int)) = false → ((0 : Int) ≤ IntKind.i64.wrap (n * (2 : Int)) ∧ IntKind.i64.wrap (n * (2 : Int)) ≤ IntKind.i64.wrap (IntKind.i64.wrap (n * (2 : Int)) + (2 : Int)) ∧ IntKind.i64.wrap (IntKind.i64.wrap
 (n * (2 : Int)) + (2 : Int)) ≤ (200 : Int)) ∧ List.take ((IntKind.i64.wrap (IntKind.i64.wrap (n * (2 : Int)) + (2 : Int))).toNat - (IntKind.i64.wrap (n * (2 : Int))).toNat) (List.drop (IntKind.i64.wrap (n * (2 :
 Int))).toNat tab1) = decS n ∧ True)) ∧ (decide (n < (100 : Int)) = false → (decide (n < (0 : Int)) = true → ndD.pre (IntKind.u64.wrap ((0 : Int) - IntKind.u64.wrap n), ()) ∧ ∃ (s : Nat), n = n ∧ IntKind.u64.wrap ((0 :
 Int) - IntKind.u64.wrap n) = (↑(mag n) : Int) ∧ AVal.int IntKind.i64 (↑(digits (IntKind.u64.wrap ((0 : Int) - IntKind.u64.wrap n)).toNat).length : Int) = AVal.int IntKind.i64 (↑s : Int) ∧ (s = (digits (mag n)).length ∧
 (0 : Nat) < mag n) ∧ True) ∧ (decide (n < (0 : Int)) = false → ndD.pre (IntKind.u64.wrap n, ()) ∧ ∃ (s : Nat), n = n ∧ IntKind.u64.wrap n = (↑(mag n) : Int) ∧ AVal.int IntKind.i64 (↑(digits (IntKind.u64.wrap
 n).toNat).length : Int) = AVal.int IntKind.i64 (↑s : Int) ∧ (s = (digits (mag n)).length ∧ (0 : Nat) < mag n) ∧ True))) ∧ (decide ((0 : Int) ≤ n) = false → (decide (n < (0 : Int)) = true → ndD.pre (IntKind.u64.wrap ((0 :
 Int) - IntKind.u64.wrap n), ()) ∧ ∃ (s : Nat), n = n ∧ IntKind.u64.wrap ((0 : Int) - IntKind.u64.wrap n) = (↑(mag n) : Int) ∧ AVal.int IntKind.i64 (↑(digits (IntKind.u64.wrap ((0 : Int) - IntKind.u64.wrap
 n)).toNat).length : Int) = AVal.int IntKind.i64 (↑s : Int) ∧ (s = (digits (mag n)).length ∧ (0 : Nat) < mag n) ∧ True) ∧ (decide (n < (0 : Int)) = false → ndD.pre (IntKind.u64.wrap n, ()) ∧ ∃ (s : Nat), n = n ∧
 IntKind.u64.wrap n = (↑(mag n) : Int) ∧ AVal.int IntKind.i64 (↑(digits (IntKind.u64.wrap n).toNat).length : Int) = AVal.int IntKind.i64 (↑s : Int) ∧ (s = (digits (mag n)).length ∧ (0 : Nat) < mag n) ∧ True))) := by
 kernel_rfl

theorem digits_bnd : ∀ (k m : Nat), (digits m).length = k → m < 10 ^ k ∧ (0 < k → 10 ^ (k - 1) ≤ m)
  | 0, m, h => by
    rcases Nat.eq_zero_or_pos m with rfl | h0
    · simp
    · rw [digits_step h0, List.length_append] at h
      simp at h
  | k + 1, m, h => by
    rcases Nat.eq_zero_or_pos m with rfl | h0
    · rw [digits_zero] at h; simp at h
    · rw [digits_step h0, List.length_append] at h
      obtain ⟨h1, h2⟩ := digits_bnd k (m / 10) (by simpa using h)
      refine ⟨by rw [Nat.pow_succ]; omega, fun _ => ?_⟩
      rw [Nat.add_sub_cancel]
      cases k with
      | zero => simp; omega
      | succ k =>
        have h2 := h2 (by omega)
        rw [Nat.add_sub_cancel] at h2
        rw [Nat.pow_succ]
        omega
theorem mag_pos {n : Int} (h0 : 0 ≤ n) (h1 : n ≤ 9223372036854775807) : mag n = n.toNat := by
  rw [mag, if_neg (by omega), wrapU64 h0 (by omega)]
theorem wrapU64_neg {n : Int} (h0 : -9223372036854775808 ≤ n) (h1 : n < 0) : IntKind.u64.wrap n = n + 18446744073709551616 := by
  simp only [IntKind.wrap, IntKind.signed, IntKind.bits]
  simp
  omega
theorem neg_mag {n : Int} (h0 : -9223372036854775808 ≤ n) (h1 : n < 0) : IntKind.u64.wrap (0 - IntKind.u64.wrap n) = -n := by
  rw [wrapU64_neg h0 h1]
  simp only [IntKind.wrap, IntKind.signed, IntKind.bits]
  simp
  omega
theorem mag_neg {n : Int} (h0 : -9223372036854775808 ≤ n) (h1 : n < 0) : mag n = (-n).toNat := by
  rw [mag, if_pos h1, neg_mag h0 h1]
theorem mag_le {n : Int} (h0 : -9223372036854775808 ≤ n) (h1 : n ≤ 9223372036854775807) : mag n ≤ 9223372036854775808 := by
  rcases Int.lt_or_le n 0 with h | h
  · rw [mag_neg h0 h]; omega
  · rw [mag_pos h h1]; omega
theorem tab2_is : ∀ j, j < 10 → (tab2.drop j).take 1 = [UInt8.ofNat (48 + j)] := by decide +kernel
theorem tab1_two : ∀ j, j < 100 → (tab1.drop (2 * j)).take 2 = [UInt8.ofNat (48 + j / 10), UInt8.ofNat (48 + j % 10)] := by decide +kernel
theorem fi_e_ok (n : Int) (h0 : -9223372036854775808 ≤ n) (h1 : n ≤ 9223372036854775807) : Go.Sy.Tree.holds (entryX F (lookC m1) 200 Tryd.f46 b46 (fiF n) [.i .i64 n, .a (.int .i64 10)]) := by
  rw [fi_e]
  simp only [decide_eq_true_eq, decide_eq_false_iff_not]
  have hp := fun (h : 0 ≤ n) => wrapU64 h (show n < 18446744073709551616 by omega)
  have hnn : n < 0 → ndD.pre (IntKind.u64.wrap (0 - IntKind.u64.wrap n), ()) ∧ ∃ (s : Nat), True ∧ IntKind.u64.wrap ((0 : Int) - IntKind.u64.wrap n) = (↑(mag n) : Int) ∧
      AVal.int IntKind.i64 (↑(digits (IntKind.u64.wrap ((0 : Int) - IntKind.u64.wrap n)).toNat).length : Int) = AVal.int IntKind.i64 (↑s : Int) ∧ (s = (digits (mag n)).length ∧ 0 < mag n) ∧ True := by
    intro h
    rw [neg_mag h0 h, mag_neg h0 h]
    exact ⟨⟨show 0 < -n by omega, show -n < 18446744073709551616 by omega⟩, _, trivial, by omega, rfl, ⟨rfl, by omega⟩, trivial⟩
  refine ⟨fun h => ⟨fun h2 => ⟨fun h3 => ?_, fun h3 => ?_⟩, fun h2 => ⟨fun h3 => by omega, fun h3 => ?_⟩⟩, fun h => ⟨hnn, fun h3 => by omega⟩⟩
  · rw [wrap64 (by omega) (by omega)]
    refine ⟨⟨h, by omega, by omega⟩, ?_, trivial⟩
    rw [show (n + 1).toNat - n.toNat = 1 by omega, tab2_is n.toNat (by omega), decS, if_neg (by omega), decN, mag_pos h h1]
    split
    · rename_i e; rw [e]; rfl
    · rw [digits_list 1 n.toNat (by decide) (by simp; omega) (by simp; omega)]
      simp
      rw [Nat.mod_eq_of_lt (by omega)]
  · rw [wrap64 (n := n * 2) (by omega) (by omega), wrap64 (by omega) (by omega)]
    refine ⟨⟨by omega, by omega, by omega⟩, ?_, trivial⟩
    rw [show (n * 2 + 2).toNat - (n * 2).toNat = 2 by omega, show (n * 2).toNat = 2 * n.toNat by omega, tab1_two n.toNat (by omega), decS, if_neg (by omega), decN, mag_pos h h1, if_neg (by omega), digits_list 2 n.toNat (by decide) (by simp; omega) (by simp; omega)]
    simp [List.range_succ]
    rw [Nat.mod_eq_of_lt (by omega)]
  · rw [hp h, mag_pos h h1]
    exact ⟨⟨show 0 < n by omega, show n < 18446744073709551616 by omega⟩, _, trivial, by omega, rfl, ⟨rfl, by omega⟩, trivial⟩
theorem fi_case1 (n : Int) (k : Nat) (e : k = 1) (h1 : mag n < 10 ^ k) (h2 : 10 ^ (k - 1) ≤ mag n) : Paid (cutVC F (lookC m1) 200 Tryd.f46 b46 (fiF n) 9 (fiC n) k) := by
  subst e
  exact fi_1_ok n (mag n) rfl (by omega) (by omega)
theorem fi_case2 (n : Int) (k : Nat) (e : k = 2) (h1 : mag n < 10 ^ k) (h2 : 10 ^ (k - 1) ≤ mag n) : Paid (cutVC F (lookC m1) 200 Tryd.f46 b46 (fiF n) 9 (fiC n) k) := by
  subst e
  exact fi_2_ok n (mag n) rfl (by omega) (by omega)
theorem fi_case3 (n : Int) (k : Nat) (e : k = 3) (h1 : mag n < 10 ^ k) (h2 : 10 ^ (k - 1) ≤ mag n) : Paid (cutVC F (lookC m1) 200 Tryd.f46 b46 (fiF n) 9 (fiC n) k) := by
  subst e
  exact fi_3_ok n (mag n) rfl (by omega) (by omega)
theorem fi_case4 (n : Int) (k : Nat) (e : k = 4) (h1 : mag n < 10 ^ k) (h2 : 10 ^ (k - 1) ≤ mag n) : Paid (cutVC F (lookC m1) 200 Tryd.f46 b46 (fiF n) 9 (fiC n) k) := by
  subst e
  exact fi_4_ok n (mag n) rfl (by omega) (by omega)
theorem fi_case5 (n : Int) (k : Nat) (e : k = 5) (h1 : mag n < 10 ^ k) (h2 : 10 ^ (k - 1) ≤ mag n) : Paid (cutVC F (lookC m1) 200 Tryd.f46 b46 (fiF n) 9 (fiC n) k) := by
  subst e
  exact fi_5_ok n (mag n) rfl (by omega) (by omega)
theorem fi_case6 (n : Int) (k : Nat) (e : k = 6) (h1 : mag n < 10 ^ k) (h2 : 10 ^ (k - 1) ≤ mag n) : Paid (cutVC F (lookC m1) 200 Tryd.f46 b46 (fiF n) 9 (fiC n) k) := by
  subst e
  exact fi_6_ok n (mag n) rfl (by omega) (by omega)
theorem fi_case7 (n : Int) (k : Nat) (e : k = 7) (h1 : mag n < 10 ^ k) (h2 : 10 ^ (k - 1) ≤ mag n) : Paid (cutVC F (lookC m1) 200 Tryd.f46 b46 (fiF n) 9 (fiC n) k) := by
  subst e
  exact fi_7_ok n (mag n) rfl (by omega) (by omega)
theorem fi_case8 (n : Int) (k : Nat) (e : k = 8) (h1 : mag n < 10 ^ k) (h2 : 10 ^ (k - 1) ≤ mag n) : Paid (cutVC F (lookC m1) 200 Tryd.f46 b46 (fiF n) 9 (fiC n) k) := by
  subst e
  exact fi_8_ok n (mag n) rfl (by omega) (by omega)
theorem fi_case9 (n : Int) (k : Nat) (e : k = 9) (h1 : mag n < 10 ^ k) (h2 : 10 ^ (k - 1) ≤ mag n) : Paid (cutVC F (lookC m1) 200 Tryd.f46 b46 (fiF n) 9 (fiC n) k) := by
  subst e
  exact fi_9_ok n (mag n) rfl (by omega) (by omega)
theorem fi_case10 (n : Int) (k : Nat) (e : k = 10) (h1 : mag n < 10 ^ k) (h2 : 10 ^ (k - 1) ≤ mag n) : Paid (cutVC F (lookC m1) 200 Tryd.f46 b46 (fiF n) 9 (fiC n) k) := by
  subst e
  exact fi_10_ok n (mag n) rfl (by omega) (by omega)
theorem fi_case11 (n : Int) (k : Nat) (e : k = 11) (h1 : mag n < 10 ^ k) (h2 : 10 ^ (k - 1) ≤ mag n) : Paid (cutVC F (lookC m1) 200 Tryd.f46 b46 (fiF n) 9 (fiC n) k) := by
  subst e
  exact fi_11_ok n (mag n) rfl (by omega) (by omega)
theorem fi_case12 (n : Int) (k : Nat) (e : k = 12) (h1 : mag n < 10 ^ k) (h2 : 10 ^ (k - 1) ≤ mag n) : Paid (cutVC F (lookC m1) 200 Tryd.f46 b46 (fiF n) 9 (fiC n) k) := by
  subst e
  exact fi_12_ok n (mag n) rfl (by omega) (by omega)
theorem fi_case13 (n : Int) (k : Nat) (e : k = 13) (h1 : mag n < 10 ^ k) (h2 : 10 ^ (k - 1) ≤ mag n) : Paid (cutVC F (lookC m1) 200 Tryd.f46 b46 (fiF n) 9 (fiC n) k) := by
  subst e
  exact fi_13_ok n (mag n) rfl (by omega) (by omega)
theorem fi_case14 (n : Int) (k : Nat) (e : k = 14) (h1 : mag n < 10 ^ k) (h2 : 10 ^ (k - 1) ≤ mag n) : Paid (cutVC F (lookC m1) 200 Tryd.f46 b46 (fiF n) 9 (fiC n) k) := by
  subst e
  exact fi_14_ok n (mag n) rfl (by omega) (by omega)
theorem fi_case15 (n : Int) (k : Nat) (e : k = 15) (h1 : mag n < 10 ^ k) (h2 : 10 ^ (k - 1) ≤ mag n) : Paid (cutVC F (lookC m1) 200 Tryd.f46 b46 (fiF n) 9 (fiC n) k) := by
  subst e
  exact fi_15_ok n (mag n) rfl (by omega) (by omega)
theorem fi_case16 (n : Int) (k : Nat) (e : k = 16) (h1 : mag n < 10 ^ k) (h2 : 10 ^ (k - 1) ≤ mag n) : Paid (cutVC F (lookC m1) 200 Tryd.f46 b46 (fiF n) 9 (fiC n) k) := by
  subst e
  exact fi_16_ok n (mag n) rfl (by omega) (by omega)
theorem fi_case17 (n : Int) (k : Nat) (e : k = 17) (h1 : mag n < 10 ^ k) (h2 : 10 ^ (k - 1) ≤ mag n) : Paid (cutVC F (lookC m1) 200 Tryd.f46 b46 (fiF n) 9 (fiC n) k) := by
  subst e
  exact fi_17_ok n (mag n) rfl (by omega) (by omega)
theorem fi_case18 (n : Int) (k : Nat) (e : k = 18) (h1 : mag n < 10 ^ k) (h2 : 10 ^ (k - 1) ≤ mag n) : Paid (cutVC F (lookC m1) 200 Tryd.f46 b46 (fiF n) 9 (fiC n) k) := by
  subst e
  exact fi_18_ok n (mag n) rfl (by omega) (by omega)
theorem fi_case19 (n : Int) (k : Nat) (e : k = 19) (h1 : mag n < 10 ^ k) (h2 : 10 ^ (k - 1) ≤ mag n) : Paid (cutVC F (lookC m1) 200 Tryd.f46 b46 (fiF n) 9 (fiC n) k) := by
  subst e
  exact fi_19_ok n (mag n) rfl (by omega) (by omega)
set_option maxRecDepth 10000 in
theorem fi_c_ok (n : Int) (h0 : -9223372036854775808 ≤ n) (h1 : n ≤ 9223372036854775807) (k : Nat) (hk : k = (digits (mag n)).length) (hpos : 0 < mag n) : Paid (cutVC F (lookC m1) 200 Tryd.f46 b46 (fiF n) 9 (fiC n) k) := by
  have hm := mag_le h0 h1
  have hb1 := (digits_bnd k (mag n) hk.symm).1
  have hb2 := (digits_bnd k (mag n) hk.symm).2
  have hk0 : k ≠ 0 := by
    rintro rfl
    simp at hb1
    omega
  replace hb2 := hb2 (by omega)
  have hk19 : k ≤ 19 := by
    rcases Nat.lt_or_ge 19 k with h | h
    · have := Nat.pow_le_pow_right (show 0 < 10 by decide) (show 19 ≤ k - 1 by omega)
      omega
    · exact h
  clear hk
  by_cases e1 : k = 1
  · exact fi_case1 n k e1 hb1 hb2
  by_cases e2 : k = 2
  · exact fi_case2 n k e2 hb1 hb2
  by_cases e3 : k = 3
  · exact fi_case3 n k e3 hb1 hb2
  by_cases e4 : k = 4
  · exact fi_case4 n k e4 hb1 hb2
  by_cases e5 : k = 5
  · exact fi_case5 n k e5 hb1 hb2
  by_cases e6 : k = 6
  · exact fi_case6 n k e6 hb1 hb2
  by_cases e7 : k = 7
  · exact fi_case7 n k e7 hb1 hb2
  by_cases e8 : k = 8
  · exact fi_case8 n k e8 hb1 hb2
  by_cases e9 : k = 9
  · exact fi_case9 n k e9 hb1 hb2
  by_cases e10 : k = 10
  · exact fi_case10 n k e10 hb1 hb2
  by_cases e11 : k = 11
  · exact fi_case11 n k e11 hb1 hb2
  by_cases e12 : k = 12
  · exact fi_case12 n k e12 hb1 hb2
  by_cases e13 : k = 13
  · exact fi_case13 n k e13 hb1 hb2
  by_cases e14 : k = 14
  · exact fi_case14 n k e14 hb1 hb2
  by_cases e15 : k = 15
  · exact fi_case15 n k e15 hb1 hb2
  by_cases e16 : k = 16
  · exact fi_case16 n k e16 hb1 hb2
  by_cases e17 : k = 17
  · exact fi_case17 n k e17 hb1 hb2
  by_cases e18 : k = 18
  · exact fi_case18 n k e18 hb1 hb2
  by_cases e19 : k = 19
  · exact fi_case19 n k e19 hb1 hb2
  exfalso
  omega
set_option maxRecDepth 10000 in
theorem fiOk : CtrOk1 F.S 46 (mkCtr fiD) :=
  mkCtr_paid (fn := Tryd.f46) (body := b46) (ctr := lookC m1) codOk noExt hookLow (lookC_ok fun p h => by
    simp only [m1, List.mem_cons, List.not_mem_nil, or_false] at h
    subst h
    exact ndOk) Tryd.func46 rfl rfl rfl fiD 200 (fun (x : Int × Unit × Unit) => [(9, fiC x.1)]) (show 2 ≤ 54 by decide) (show 54 ≤ 512 by decide) (by kernel_rfl) (fun _ _ => ⟨rfl, rfl⟩)
    (fun x hp => ⟨fi_e_ok x.1 hp.1 hp.2⟩)
    (fun (x : Int × Unit × Unit) hp p hm s hI => by
      have hm : p = (9, fiC x.1) := by simpa using hm
      subst hm
      exact fi_c_ok x.1 hp.1 hp.2 s hI.1 hI.2)
end Go.Proofs.YtomlcdalhihnaaaDoor

/- strconv.FormatInt by tens: so many digits each. -/
import Derived.Test.YtomlcdalhihnaaaDoorIp
namespace Go.Proofs.YtomlcdalhihnaaaDoor
open Go.RowKit Go.Am Go.Sy
set_option linter.unusedVariables false
set_option linter.unusedSimpArgs false

theorem c32 (a : Nat) : IntKind.u32.wrap (a : Int) = ((a % 4294967296 : Nat) : Int) := by
  simp only [IntKind.wrap, IntKind.signed, IntKind.bits]
  simp
theorem c64 (a : Nat) : IntKind.u64.wrap (a : Int) = ((a % 18446744073709551616 : Nat) : Int) := by
  simp only [IntKind.wrap, IntKind.signed, IntKind.bits]
  simp
theorem c8 (a : Nat) : IntKind.u8.wrap (a : Int) = ((a % 256 : Nat) : Int) := by
  simp only [IntKind.wrap, IntKind.signed, IntKind.bits]
  simp
theorem tm (a c : Nat) : (a : Int).tmod (c : Int) = ((a % c : Nat) : Int) := by
  rw [Int.tmod_eq_emod_of_nonneg (by omega)]
  omega
theorem td (a c : Nat) : (a : Int).tdiv (c : Int) = ((a / c : Nat) : Int) := by
  rw [Int.tdiv_eq_ediv_of_nonneg (by omega)]
  omega
theorem tm2 (a : Nat) : (a : Int).tmod 100 = ((a % 100 : Nat) : Int) := tm a 100
theorem tm4 (a : Nat) : (a : Int).tmod 10000 = ((a % 10000 : Nat) : Int) := tm a 10000
theorem tm8 (a : Nat) : (a : Int).tmod 100000000 = ((a % 100000000 : Nat) : Int) := tm a 100000000
theorem td2 (a : Nat) : (a : Int).tdiv 100 = ((a / 100 : Nat) : Int) := td a 100
theorem td4 (a : Nat) : (a : Int).tdiv 10000 = ((a / 10000 : Nat) : Int) := td a 10000
theorem td8 (a : Nat) : (a : Int).tdiv 100000000 = ((a / 100000000 : Nat) : Int) := td a 100000000
theorem mu2 (a : Nat) : (a : Int) * 2 = ((a * 2 : Nat) : Int) := by omega
theorem add1 (a : Nat) : (a : Int) + 1 = ((a + 1 : Nat) : Int) := by omega
theorem add48 (a : Nat) : 48 + (a : Int) = ((48 + a : Nat) : Int) := by omega
theorem tab1_is : ∀ j, j < 100 → tab1.getD (2 * j) 0 = UInt8.ofNat (48 + j / 10) ∧ tab1.getD (2 * j + 1) 0 = UInt8.ofNat (48 + j % 10) := by decide +kernel
theorem tb_even (N j q : Nat) (h : N = 2 * j) (hj : j < 100) (hq : q = j / 10) : UInt8.ofNat (tab1.getD N 0).toNat = UInt8.ofNat (48 + q) := by
  subst h hq
  rw [UInt8.ofNat_toNat, (tab1_is j hj).1]
theorem tb_odd (N j q : Nat) (h : N = 2 * j + 1) (hj : j < 100) (hq : q = j % 10) : UInt8.ofNat (tab1.getD N 0).toNat = UInt8.ofNat (48 + q) := by
  subst h hq
  rw [UInt8.ofNat_toNat, (tab1_is j hj).2]
theorem cons2 {a b : UInt8} {l l' : List UInt8} (h : a = b) (h' : l = l') : a :: l = b :: l' := by rw [h, h']
theorem digits_list : ∀ (k m : Nat), 0 < k → 10 ^ (k - 1) ≤ m → m < 10 ^ k → digits m = (List.range k).map fun i => UInt8.ofNat (48 + m / 10 ^ (k - 1 - i) % 10)
  | 0, m, h, _, _ => absurd h (by decide)
  | 1, m, _, h1, h2 => by
    have h3 : 0 < m := by simp at h1; omega
    rw [digits_step h3, show m / 10 = 0 by simp at h2; omega, digits_zero]
    simp
  | k + 2, m, _, h1, h2 => by
    have h3 : 0 < m := Nat.lt_of_lt_of_le (Nat.pow_pos (by decide)) h1
    rw [digits_step h3, digits_list (k + 1) (m / 10) (by omega) (by simp only [Nat.add_sub_cancel] at h1 ⊢; rw [show k + 2 - 1 = k + 1 by omega, Nat.pow_succ] at h1; omega) (by rw [Nat.pow_succ] at h2; omega), List.range_succ (n := k + 1), List.map_append]
    congr 1
    · refine List.map_congr_left fun i hi => ?_
      have hi := List.mem_range.1 hi
      rw [Nat.div_div_eq_div_mul, show k + 2 - 1 - i = k + 1 - 1 - i + 1 by omega, Nat.pow_succ, Nat.mul_comm]
    · simp
theorem fi_1 (n : Int) : Go.Sy.Tree.holds (cutVC F (lookC m1) 200 Tryd.f46 b46 (fiF n) 9 (fiC n) (1 : Nat)) = ( (decide (n < 0) = true → [UInt8.ofNat (45 : Nat), UInt8.ofNat (IntKind.u8.wrap (IntKind.u32.wrap ((48 : Int)
 + IntKind.u32.wrap (↑(mag n) : Int)))).toNat] = decS n ∧ True) ∧ (decide (n < 0) = false → [UInt8.ofNat (IntKind.u8.wrap (IntKind.u32.wrap ((48 : Int) + IntKind.u32.wrap (↑(mag n) : Int)))).toNat] = decS n ∧ True)) := by
 kernel_rfl
theorem fi_1_ok (n : Int) (m : Nat) (hm : mag n = m) (h1 : 1 ≤ m) (h2 : m < 10) : Paid (cutVC F (lookC m1) 200 Tryd.f46 b46 (fiF n) 9 (fiC n) (1 : Nat)) := by
  refine ⟨?_⟩
  rw [fi_1, hm]
  simp only [c32, c64, c8, tm2, tm4, tm8, td2, td4, td8, mu2, add1, add48, Int.toNat_natCast]
  have hd : digits m = [UInt8.ofNat (48 + m / 1 % 10)] := digits_list 1 m (by decide) h1 h2
  refine ⟨fun h => ⟨?_, trivial⟩, fun h => ⟨?_, trivial⟩⟩
  · simp only [decide_eq_true_eq] at h
    rw [decS, if_pos h, decN, hm, if_neg (by omega), hd]
    exact cons2 (rfl) (cons2 (congrArg UInt8.ofNat (by omega)) (rfl))
  · simp only [decide_eq_false_iff_not] at h
    rw [decS, if_neg h, decN, hm, if_neg (by omega), hd]
    exact cons2 (congrArg UInt8.ofNat (by omega)) (rfl)

theorem fi_2 (n : Int) : Go.Sy.Tree.holds (cutVC F (lookC m1) 200 Tryd.f46 b46 (fiF n) 9 (fiC n) (2 : Nat)) = ( ((0 : Int) ≤ IntKind.u32.wrap (IntKind.u32.wrap ((IntKind.u32.wrap (↑(mag n) : Int)).tmod 100 * 2) + 1) ∧
 IntKind.u32.wrap (IntKind.u32.wrap ((IntKind.u32.wrap (↑(mag n) : Int)).tmod 100 * 2) + 1) < 200) ∧ ((0 : Int) ≤ IntKind.u32.wrap ((IntKind.u32.wrap (↑(mag n) : Int)).tmod 100 * 2) ∧ IntKind.u32.wrap ((IntKind.u32.wrap
 (↑(mag n) : Int)).tmod 100 * 2) < 200) ∧ (decide (n < 0) = true → [UInt8.ofNat (45 : Nat), UInt8.ofNat (↑(tab1.getD (IntKind.u32.wrap ((IntKind.u32.wrap (↑(mag n) : Int)).tmod 100 * 2)).toNat (0 : UInt8)).toNat :
 Int).toNat, UInt8.ofNat (↑(tab1.getD (IntKind.u32.wrap (IntKind.u32.wrap ((IntKind.u32.wrap (↑(mag n) : Int)).tmod 100 * 2) + 1)).toNat (0 : UInt8)).toNat : Int).toNat] = decS n ∧ True) ∧ (decide (n < 0) = false →
 [UInt8.ofNat (↑(tab1.getD (IntKind.u32.wrap ((IntKind.u32.wrap (↑(mag n) : Int)).tmod 100 * 2)).toNat (0 : UInt8)).toNat : Int).toNat, UInt8.ofNat (↑(tab1.getD (IntKind.u32.wrap (IntKind.u32.wrap ((IntKind.u32.wrap
 (↑(mag n) : Int)).tmod 100 * 2) + 1)).toNat (0 : UInt8)).toNat : Int).toNat] = decS n ∧ True)) := by kernel_rfl
theorem fi_2_ok (n : Int) (m : Nat) (hm : mag n = m) (h1 : 10 ≤ m) (h2 : m < 100) : Paid (cutVC F (lookC m1) 200 Tryd.f46 b46 (fiF n) 9 (fiC n) (2 : Nat)) := by
  refine ⟨?_⟩
  rw [fi_2, hm]
  simp only [c32, c64, c8, tm2, tm4, tm8, td2, td4, td8, mu2, add1, add48, Int.toNat_natCast]
  have hd : digits m = [UInt8.ofNat (48 + m / 10 % 10), UInt8.ofNat (48 + m / 1 % 10)] := digits_list 2 m (by decide) h1 h2
  refine ⟨⟨by omega, by omega⟩, ⟨by omega, by omega⟩, fun h => ⟨?_, trivial⟩, fun h => ⟨?_, trivial⟩⟩
  · simp only [decide_eq_true_eq] at h
    rw [decS, if_pos h, decN, hm, if_neg (by omega), hd]
    exact cons2 (rfl) (cons2 (tb_even _ (m / 1 % 100) _ (by omega) (by omega) (by omega)) (cons2 (tb_odd _ (m / 1 % 100) _ (by omega) (by omega) (by omega)) (rfl)))
  · simp only [decide_eq_false_iff_not] at h
    rw [decS, if_neg h, decN, hm, if_neg (by omega), hd]
    exact cons2 (tb_even _ (m / 1 % 100) _ (by omega) (by omega) (by omega)) (cons2 (tb_odd _ (m / 1 % 100) _ (by omega) (by omega) (by omega)) (rfl))

theorem fi_3 (n : Int) : Go.Sy.Tree.holds (cutVC F (lookC m1) 200 Tryd.f46 b46 (fiF n) 9 (fiC n) (3 : Nat)) = ( ((0 : Int) ≤ IntKind.u32.wrap (IntKind.u32.wrap ((IntKind.u32.wrap (↑(mag n) : Int)).tmod 100 * 2) + 1) ∧
 IntKind.u32.wrap (IntKind.u32.wrap ((IntKind.u32.wrap (↑(mag n) : Int)).tmod 100 * 2) + 1) < 200) ∧ ((0 : Int) ≤ IntKind.u32.wrap ((IntKind.u32.wrap (↑(mag n) : Int)).tmod 100 * 2) ∧ IntKind.u32.wrap ((IntKind.u32.wrap
 (↑(mag n) : Int)).tmod 100 * 2) < 200) ∧ (decide (n < 0) = true → [UInt8.ofNat (45 : Nat), UInt8.ofNat (IntKind.u8.wrap (IntKind.u32.wrap ((48 : Int) + IntKind.u32.wrap ((IntKind.u32.wrap (↑(mag n) : Int)).tdiv
 100)))).toNat, UInt8.ofNat (↑(tab1.getD (IntKind.u32.wrap ((IntKind.u32.wrap (↑(mag n) : Int)).tmod 100 * 2)).toNat (0 : UInt8)).toNat : Int).toNat, UInt8.ofNat (↑(tab1.getD (IntKind.u32.wrap (IntKind.u32.wrap
 ((IntKind.u32.wrap (↑(mag n) : Int)).tmod 100 * 2) + 1)).toNat (0 : UInt8)).toNat : Int).toNat] = decS n ∧ True) ∧ (decide (n < 0) = false → [UInt8.ofNat (IntKind.u8.wrap (IntKind.u32.wrap ((48 : Int) + IntKind.u32.wrap
 ((IntKind.u32.wrap (↑(mag n) : Int)).tdiv 100)))).toNat, UInt8.ofNat (↑(tab1.getD (IntKind.u32.wrap ((IntKind.u32.wrap (↑(mag n) : Int)).tmod 100 * 2)).toNat (0 : UInt8)).toNat : Int).toNat, UInt8.ofNat (↑(tab1.getD
 (IntKind.u32.wrap (IntKind.u32.wrap ((IntKind.u32.wrap (↑(mag n) : Int)).tmod 100 * 2) + 1)).toNat (0 : UInt8)).toNat : Int).toNat] = decS n ∧ True)) := by kernel_rfl
theorem fi_3_ok (n : Int) (m : Nat) (hm : mag n = m) (h1 : 100 ≤ m) (h2 : m < 1000) : Paid (cutVC F (lookC m1) 200 Tryd.f46 b46 (fiF n) 9 (fiC n) (3 : Nat)) := by
  refine ⟨?_⟩
  rw [fi_3, hm]
  simp only [c32, c64, c8, tm2, tm4, tm8, td2, td4, td8, mu2, add1, add48, Int.toNat_natCast]
  have hd : digits m = [UInt8.ofNat (48 + m / 100 % 10), UInt8.ofNat (48 + m / 10 % 10), UInt8.ofNat (48 + m / 1 % 10)] := digits_list 3 m (by decide) h1 h2
  refine ⟨⟨by omega, by omega⟩, ⟨by omega, by omega⟩, fun h => ⟨?_, trivial⟩, fun h => ⟨?_, trivial⟩⟩
  · simp only [decide_eq_true_eq] at h
    rw [decS, if_pos h, decN, hm, if_neg (by omega), hd]
    exact cons2 (rfl) (cons2 (congrArg UInt8.ofNat (by omega)) (cons2 (tb_even _ (m / 1 % 100) _ (by omega) (by omega) (by omega)) (cons2 (tb_odd _ (m / 1 % 100) _ (by omega) (by omega) (by omega)) (rfl))))
  · simp only [decide_eq_false_iff_not] at h
    rw [decS, if_neg h, decN, hm, if_neg (by omega), hd]
    exact cons2 (congrArg UInt8.ofNat (by omega)) (cons2 (tb_even _ (m / 1 % 100) _ (by omega) (by omega) (by omega)) (cons2 (tb_odd _ (m / 1 % 100) _ (by omega) (by omega) (by omega)) (rfl)))

theorem fi_4 (n : Int) : Go.Sy.Tree.holds (cutVC F (lookC m1) 200 Tryd.f46 b46 (fiF n) 9 (fiC n) (4 : Nat)) = ( ((0 : Int) ≤ IntKind.u32.wrap (IntKind.u32.wrap (((IntKind.u32.wrap (↑(mag n) : Int)).tmod 10000).tmod 100 *
 2) + 1) ∧ IntKind.u32.wrap (IntKind.u32.wrap (((IntKind.u32.wrap (↑(mag n) : Int)).tmod 10000).tmod 100 * 2) + 1) < 200) ∧ ((0 : Int) ≤ IntKind.u32.wrap (((IntKind.u32.wrap (↑(mag n) : Int)).tmod 10000).tmod 100 * 2) ∧
 IntKind.u32.wrap (((IntKind.u32.wrap (↑(mag n) : Int)).tmod 10000).tmod 100 * 2) < 200) ∧ ((0 : Int) ≤ IntKind.u32.wrap (IntKind.u32.wrap (IntKind.u32.wrap (((IntKind.u32.wrap (↑(mag n) : Int)).tmod 10000).tdiv 100) * 2)
 + 1) ∧ IntKind.u32.wrap (IntKind.u32.wrap (IntKind.u32.wrap (((IntKind.u32.wrap (↑(mag n) : Int)).tmod 10000).tdiv 100) * 2) + 1) < 200) ∧ ((0 : Int) ≤ IntKind.u32.wrap (IntKind.u32.wrap (((IntKind.u32.wrap (↑(mag n) :
 Int)).tmod 10000).tdiv 100) * 2) ∧ IntKind.u32.wrap (IntKind.u32.wrap (((IntKind.u32.wrap (↑(mag n) : Int)).tmod 10000).tdiv 100) * 2) < 200) ∧ (decide (n < 0) = true → [UInt8.ofNat (45 : Nat), UInt8.ofNat (↑(tab1.getD
 (IntKind.u32.wrap (IntKind.u32.wrap (((IntKind.u32.wrap (↑(mag n) : Int)).tmod 10000).tdiv 100) * 2)).toNat (0 : UInt8)).toNat : Int).toNat, UInt8.ofNat (↑(tab1.getD (IntKind.u32.wrap (IntKind.u32.wrap (IntKind.u32.wrap
 (((IntKind.u32.wrap (↑(mag n) : Int)).tmod 10000).tdiv 100) * 2) + 1)).toNat (0 : UInt8)).toNat : Int).toNat, UInt8.ofNat (↑(tab1.getD (IntKind.u32.wrap (((IntKind.u32.wrap (↑(mag n) : Int)).tmod 10000).tmod 100 *
 2)).toNat (0 : UInt8)).toNat : Int).toNat, UInt8.ofNat (↑(tab1.getD (IntKind.u32.wrap (IntKind.u32.wrap (((IntKind.u32.wrap (↑(mag n) : Int)).tmod 10000).tmod 100 * 2) + 1)).toNat (0 : UInt8)).toNat : Int).toNat] = decS
 n ∧ True) ∧ (decide (n < 0) = false → [UInt8.ofNat (↑(tab1.getD (IntKind.u32.wrap (IntKind.u32.wrap (((IntKind.u32.wrap (↑(mag n) : Int)).tmod 10000).tdiv 100) * 2)).toNat (0 : UInt8)).toNat : Int).toNat, UInt8.ofNat
 (↑(tab1.getD (IntKind.u32.wrap (IntKind.u32.wrap (IntKind.u32.wrap (((IntKind.u32.wrap (↑(mag n) : Int)).tmod 10000).tdiv 100) * 2) + 1)).toNat (0 : UInt8)).toNat : Int).toNat, UInt8.ofNat (↑(tab1.getD (IntKind.u32.wrap
 (((IntKind.u32.wrap (↑(mag n) : Int)).tmod 10000).tmod 100 * 2)).toNat (0 : UInt8)).toNat : Int).toNat, UInt8.ofNat (↑(tab1.getD (IntKind.u32.wrap (IntKind.u32.wrap (((IntKind.u32.wrap (↑(mag n) : Int)).tmod 10000).tmod
 100 * 2) + 1)).toNat (0 : UInt8)).toNat : Int).toNat] = decS n ∧ True)) := by kernel_rfl
theorem fi_4_ok (n : Int) (m : Nat) (hm : mag n = m) (h1 : 1000 ≤ m) (h2 : m < 10000) : Paid (cutVC F (lookC m1) 200 Tryd.f46 b46 (fiF n) 9 (fiC n) (4 : Nat)) := by
  refine ⟨?_⟩
  rw [fi_4, hm]
  simp only [c32, c64, c8, tm2, tm4, tm8, td2, td4, td8, mu2, add1, add48, Int.toNat_natCast]
  have hd : digits m = [UInt8.ofNat (48 + m / 1000 % 10), UInt8.ofNat (48 + m / 100 % 10), UInt8.ofNat (48 + m / 10 % 10), UInt8.ofNat (48 + m / 1 % 10)] := digits_list 4 m (by decide) h1 h2
  refine ⟨⟨by omega, by omega⟩, ⟨by omega, by omega⟩, ⟨by omega, by omega⟩, ⟨by omega, by omega⟩, fun h => ⟨?_, trivial⟩, fun h => ⟨?_, trivial⟩⟩
  · simp only [decide_eq_true_eq] at h
    rw [decS, if_pos h, decN, hm, if_neg (by omega), hd]
    exact cons2 (rfl) (cons2 (tb_even _ (m / 100 % 100) _ (by omega) (by omega) (by omega)) (cons2 (tb_odd _ (m / 100 % 100) _ (by omega) (by omega) (by omega)) (cons2 (tb_even _ (m / 1 % 100) _ (by omega) (by omega) (by omega)) (cons2 (tb_odd _ (m / 1 % 100) _ (by omega) (by omega) (by omega)) (rfl)))))
  · simp only [decide_eq_false_iff_not] at h
    rw [decS, if_neg h, decN, hm, if_neg (by omega), hd]
    exact cons2 (tb_even _ (m / 100 % 100) _ (by omega) (by omega) (by omega)) (cons2 (tb_odd _ (m / 100 % 100) _ (by omega) (by omega) (by omega)) (cons2 (tb_even _ (m / 1 % 100) _ (by omega) (by omega) (by omega)) (cons2 (tb_odd _ (m / 1 % 100) _ (by omega) (by omega) (by omega)) (rfl))))

theorem fi_5 (n : Int) : Go.Sy.Tree.holds (cutVC F (lookC m1) 200 Tryd.f46 b46 (fiF n) 9 (fiC n) (5 : Nat)) = ( ((0 : Int) ≤ IntKind.u32.wrap (IntKind.u32.wrap (((IntKind.u32.wrap (↑(mag n) : Int)).tmod 10000).tmod 100 *
 2) + 1) ∧ IntKind.u32.wrap (IntKind.u32.wrap (((IntKind.u32.wrap (↑(mag n) : Int)).tmod 10000).tmod 100 * 2) + 1) < 200) ∧ ((0 : Int) ≤ IntKind.u32.wrap (((IntKind.u32.wrap (↑(mag n) : Int)).tmod 10000).tmod 100 * 2) ∧
 IntKind.u32.wrap (((IntKind.u32.wrap (↑(mag n) : Int)).tmod 10000).tmod 100 * 2) < 200) ∧ ((0 : Int) ≤ IntKind.u32.wrap (IntKind.u32.wrap (IntKind.u32.wrap (((IntKind.u32.wrap (↑(mag n) : Int)).tmod 10000).tdiv 100) * 2)
 + 1) ∧ IntKind.u32.wrap (IntKind.u32.wrap (IntKind.u32.wrap (((IntKind.u32.wrap (↑(mag n) : Int)).tmod 10000).tdiv 100) * 2) + 1) < 200) ∧ ((0 : Int) ≤ IntKind.u32.wrap (IntKind.u32.wrap (((IntKind.u32.wrap (↑(mag n) :
 Int)).tmod 10000).tdiv 100) * 2) ∧ IntKind.u32.wrap (IntKind.u32.wrap (((IntKind.u32.wrap (↑(mag n) : Int)).tmod 10000).tdiv 100) * 2) < 200) ∧ (decide (n < 0) = true → [UInt8.ofNat (45 : Nat), UInt8.ofNat
 (IntKind.u8.wrap (IntKind.u32.wrap ((48 : Int) + IntKind.u32.wrap ((IntKind.u32.wrap (↑(mag n) : Int)).tdiv 10000)))).toNat, UInt8.ofNat (↑(tab1.getD (IntKind.u32.wrap (IntKind.u32.wrap (((IntKind.u32.wrap (↑(mag n) :
 Int)).tmod 10000).tdiv 100) * 2)).toNat (0 : UInt8)).toNat : Int).toNat, UInt8.ofNat (↑(tab1.getD (IntKind.u32.wrap (IntKind.u32.wrap (IntKind.u32.wrap (((IntKind.u32.wrap (↑(mag n) : Int)).tmod 10000).tdiv 100) * 2) +
 1)).toNat (0 : UInt8)).toNat : Int).toNat, UInt8.ofNat (↑(tab1.getD (IntKind.u32.wrap (((IntKind.u32.wrap (↑(mag n) : Int)).tmod 10000).tmod 100 * 2)).toNat (0 : UInt8)).toNat : Int).toNat, UInt8.ofNat (↑(tab1.getD
 (IntKind.u32.wrap (IntKind.u32.wrap (((IntKind.u32.wrap (↑(mag n) : Int)).tmod 10000).tmod 100 * 2) + 1)).toNat (0 : UInt8)).toNat : Int).toNat] = decS n ∧ True) ∧ (decide (n < 0) = false → [UInt8.ofNat (IntKind.u8.wrap
 (IntKind.u32.wrap ((48 : Int) + IntKind.u32.wrap ((IntKind.u32.wrap (↑(mag n) : Int)).tdiv 10000)))).toNat, UInt8.ofNat (↑(tab1.getD (IntKind.u32.wrap (IntKind.u32.wrap (((IntKind.u32.wrap (↑(mag n) : Int)).tmod
 10000).tdiv 100) * 2)).toNat (0 : UInt8)).toNat : Int).toNat, UInt8.ofNat (↑(tab1.getD (IntKind.u32.wrap (IntKind.u32.wrap (IntKind.u32.wrap (((IntKind.u32.wrap (↑(mag n) : Int)).tmod 10000).tdiv 100) * 2) + 1)).toNat (0
 : UInt8)).toNat : Int).toNat, UInt8.ofNat (↑(tab1.getD (IntKind.u32.wrap (((IntKind.u32.wrap (↑(mag n) : Int)).tmod 10000).tmod 100 * 2)).toNat (0 : UInt8)).toNat : Int).toNat, UInt8.ofNat (↑(tab1.getD (IntKind.u32.wrap
 (IntKind.u32.wrap (((IntKind.u32.wrap (↑(mag n) : Int)).tmod 10000).tmod 100 * 2) + 1)).toNat (0 : UInt8)).toNat : Int).toNat] = decS n ∧ True)) := by kernel_rfl
theorem fi_5_ok (n : Int) (m : Nat) (hm : mag n = m) (h1 : 10000 ≤ m) (h2 : m < 100000) : Paid (cutVC F (lookC m1) 200 Tryd.f46 b46 (fiF n) 9 (fiC n) (5 : Nat)) := by
  refine ⟨?_⟩
  rw [fi_5, hm]
  simp only [c32, c64, c8, tm2, tm4, tm8, td2, td4, td8, mu2, add1, add48, Int.toNat_natCast]
  have hd : digits m = [UInt8.ofNat (48 + m / 10000 % 10), UInt8.ofNat (48 + m / 1000 % 10), UInt8.ofNat (48 + m / 100 % 10), UInt8.ofNat (48 + m / 10 % 10), UInt8.ofNat (48 + m / 1 % 10)] := digits_list 5 m (by decide) h1 h2
  refine ⟨⟨by omega, by omega⟩, ⟨by omega, by omega⟩, ⟨by omega, by omega⟩, ⟨by omega, by omega⟩, fun h => ⟨?_, trivial⟩, fun h => ⟨?_, trivial⟩⟩
  · simp only [decide_eq_true_eq] at h
    rw [decS, if_pos h, decN, hm, if_neg (by omega), hd]
    exact cons2 (rfl) (cons2 (congrArg UInt8.ofNat (by omega)) (cons2 (tb_even _ (m / 100 % 100) _ (by omega) (by omega) (by omega)) (cons2 (tb_odd _ (m / 100 % 100) _ (by omega) (by omega) (by omega)) (cons2 (tb_even _ (m / 1 % 100) _ (by omega) (by omega) (by omega)) (cons2 (tb_odd _ (m / 1 % 100) _ (by omega) (by omega) (by omega)) (rfl))))))
  · simp only [decide_eq_false_iff_not] at h
    rw [decS, if_neg h, decN, hm, if_neg (by omega), hd]
    exact cons2 (congrArg UInt8.ofNat (by omega)) (cons2 (tb_even _ (m / 100 % 100) _ (by omega) (by omega) (by omega)) (cons2 (tb_odd _ (m / 100 % 100) _ (by omega) (by omega) (by omega)) (cons2 (tb_even _ (m / 1 % 100) _ (by omega) (by omega) (by omega)) (cons2 (tb_odd _ (m / 1 % 100) _ (by omega) (by omega) (by omega)) (rfl)))))

theorem fi_6 (n : Int) : Go.Sy.Tree.holds (cutVC F (lookC m1) 200 Tryd.f46 b46 (fiF n) 9 (fiC n) (6 : Nat)) = ( ((0 : Int) ≤ IntKind.u32.wrap (IntKind.u32.wrap (((IntKind.u32.wrap (↑(mag n) : Int)).tmod 10000).tmod 100 *
 2) + 1) ∧ IntKind.u32.wrap (IntKind.u32.wrap (((IntKind.u32.wrap (↑(mag n) : Int)).tmod 10000).tmod 100 * 2) + 1) < 200) ∧ ((0 : Int) ≤ IntKind.u32.wrap (((IntKind.u32.wrap (↑(mag n) : Int)).tmod 10000).tmod 100 * 2) ∧
 IntKind.u32.wrap (((IntKind.u32.wrap (↑(mag n) : Int)).tmod 10000).tmod 100 * 2) < 200) ∧ ((0 : Int) ≤ IntKind.u32.wrap (IntKind.u32.wrap (IntKind.u32.wrap (((IntKind.u32.wrap (↑(mag n) : Int)).tmod 10000).tdiv 100) * 2)
 + 1) ∧ IntKind.u32.wrap (IntKind.u32.wrap (IntKind.u32.wrap (((IntKind.u32.wrap (↑(mag n) : Int)).tmod 10000).tdiv 100) * 2) + 1) < 200) ∧ ((0 : Int) ≤ IntKind.u32.wrap (IntKind.u32.wrap (((IntKind.u32.wrap (↑(mag n) :
 Int)).tmod 10000).tdiv 100) * 2) ∧ IntKind.u32.wrap (IntKind.u32.wrap (((IntKind.u32.wrap (↑(mag n) : Int)).tmod 10000).tdiv 100) * 2) < 200) ∧ ((0 : Int) ≤ IntKind.u32.wrap (IntKind.u32.wrap ((IntKind.u32.wrap
 ((IntKind.u32.wrap (↑(mag n) : Int)).tdiv 10000)).tmod 100 * 2) + 1) ∧ IntKind.u32.wrap (IntKind.u32.wrap ((IntKind.u32.wrap ((IntKind.u32.wrap (↑(mag n) : Int)).tdiv 10000)).tmod 100 * 2) + 1) < 200) ∧ ((0 : Int) ≤
 IntKind.u32.wrap ((IntKind.u32.wrap ((IntKind.u32.wrap (↑(mag n) : Int)).tdiv 10000)).tmod 100 * 2) ∧ IntKind.u32.wrap ((IntKind.u32.wrap ((IntKind.u32.wrap (↑(mag n) : Int)).tdiv 10000)).tmod 100 * 2) < 200) ∧ (decide
 (n < 0) = true → [UInt8.ofNat (45 : Nat), UInt8.ofNat (↑(tab1.getD (IntKind.u32.wrap ((IntKind.u32.wrap ((IntKind.u32.wrap (↑(mag n) : Int)).tdiv 10000)).tmod 100 * 2)).toNat (0 : UInt8)).toNat : Int).toNat, UInt8.ofNat
 (↑(tab1.getD (IntKind.u32.wrap (IntKind.u32.wrap ((IntKind.u32.wrap ((IntKind.u32.wrap (↑(mag n) : Int)).tdiv 10000)).tmod 100 * 2) + 1)).toNat (0 : UInt8)).toNat : Int).toNat, UInt8.ofNat (↑(tab1.getD (IntKind.u32.wrap
 (IntKind.u32.wrap (((IntKind.u32.wrap (↑(mag n) : Int)).tmod 10000).tdiv 100) * 2)).toNat (0 : UInt8)).toNat : Int).toNat, UInt8.ofNat (↑(tab1.getD (IntKind.u32.wrap (IntKind.u32.wrap (IntKind.u32.wrap
 (((IntKind.u32.wrap (↑(mag n) : Int)).tmod 10000).tdiv 100) * 2) + 1)).toNat (0 : UInt8)).toNat : Int).toNat, UInt8.ofNat (↑(tab1.getD (IntKind.u32.wrap (((IntKind.u32.wrap (↑(mag n) : Int)).tmod 10000).tmod 100 *
 2)).toNat (0 : UInt8)).toNat : Int).toNat, UInt8.ofNat (↑(tab1.getD (IntKind.u32.wrap (IntKind.u32.wrap (((IntKind.u32.wrap (↑(mag n) : Int)).tmod 10000).tmod 100 * 2) + 1)).toNat (0 : UInt8)).toNat : Int).toNat] = decS
 n ∧ True) ∧ (decide (n < 0) = false → [UInt8.ofNat (↑(tab1.getD (IntKind.u32.wrap ((IntKind.u32.wrap ((IntKind.u32.wrap (↑(mag n) : Int)).tdiv 10000)).tmod 100 * 2)).toNat (0 : UInt8)).toNat : Int).toNat, UInt8.ofNat
 (↑(tab1.getD (IntKind.u32.wrap (IntKind.u32.wrap ((IntKind.u32.wrap ((IntKind.u32.wrap (↑(mag n) : Int)).tdiv 10000)).tmod 100 * 2) + 1)).toNat (0 : UInt8)).toNat : Int).toNat, UInt8.ofNat (↑(tab1.getD (IntKind.u32.wrap
 (IntKind.u32.wrap (((IntKind.u32.wrap (↑(mag n) : Int)).tmod 10000).tdiv 100) * 2)).toNat (0 : UInt8)).toNat : Int).toNat, UInt8.ofNat (↑(tab1.getD (IntKind.u32.wrap (IntKind.u32.wrap (IntKind.u32.wrap
 (((IntKind.u32.wrap (↑(mag n) : Int)).tmod 10000).tdiv 100) * 2) + 1)).toNat (0 : UInt8)).toNat : Int).toNat, UInt8.ofNat (↑(tab1.getD (IntKind.u32.wrap (((IntKind.u32.wrap (↑(mag n) : Int)).tmod 10000).tmod 100 *
 2)).toNat (0 : UInt8)).toNat : Int).toNat, UInt8.ofNat (↑(tab1.getD (IntKind.u32.wrap (IntKind.u32.wrap (((IntKind.u32.wrap (↑(mag n) : Int)).tmod 10000).tmod 100 * 2) + 1)).toNat (0 : UInt8)).toNat : Int).toNat] = decS
 n ∧ True)) := by kernel_rfl
theorem fi_6_ok (n : Int) (m : Nat) (hm : mag n = m) (h1 : 100000 ≤ m) (h2 : m < 1000000) : Paid (cutVC F (lookC m1) 200 Tryd.f46 b46 (fiF n) 9 (fiC n) (6 : Nat)) := by
  refine ⟨?_⟩
  rw [fi_6, hm]
  simp only [c32, c64, c8, tm2, tm4, tm8, td2, td4, td8, mu2, add1, add48, Int.toNat_natCast]
  have hd : digits m = [UInt8.ofNat (48 + m / 100000 % 10), UInt8.ofNat (48 + m / 10000 % 10), UInt8.ofNat (48 + m / 1000 % 10), UInt8.ofNat (48 + m / 100 % 10), UInt8.ofNat (48 + m / 10 % 10), UInt8.ofNat (48 + m / 1 % 10)] := digits_list 6 m (by decide) h1 h2
  refine ⟨⟨by omega, by omega⟩, ⟨by omega, by omega⟩, ⟨by omega, by omega⟩, ⟨by omega, by omega⟩, ⟨by omega, by omega⟩, ⟨by omega, by omega⟩, fun h => ⟨?_, trivial⟩, fun h => ⟨?_, trivial⟩⟩
  · simp only [decide_eq_true_eq] at h
    rw [decS, if_pos h, decN, hm, if_neg (by omega), hd]
    exact cons2 (rfl) (cons2 (tb_even _ (m / 10000 % 100) _ (by omega) (by omega) (by omega)) (cons2 (tb_odd _ (m / 10000 % 100) _ (by omega) (by omega) (by omega)) (cons2 (tb_even _ (m / 100 % 100) _ (by omega) (by omega) (by omega)) (cons2 (tb_odd _ (m / 100 % 100) _ (by omega) (by omega) (by omega)) (cons2 (tb_even _ (m / 1 % 100) _ (by omega) (by omega) (by omega)) (cons2 (tb_odd _ (m / 1 % 100) _ (by omega) (by omega) (by omega)) (rfl)))))))
  · simp only [decide_eq_false_iff_not] at h
    rw [decS, if_neg h, decN, hm, if_neg (by omega), hd]
    exact cons2 (tb_even _ (m / 10000 % 100) _ (by omega) (by omega) (by omega)) (cons2 (tb_odd _ (m / 10000 % 100) _ (by omega) (by omega) (by omega)) (cons2 (tb_even _ (m / 100 % 100) _ (by omega) (by omega) (by omega)) (cons2 (tb_odd _ (m / 100 % 100) _ (by omega) (by omega) (by omega)) (cons2 (tb_even _ (m / 1 % 100) _ (by omega) (by omega) (by omega)) (cons2 (tb_odd _ (m / 1 % 100) _ (by omega) (by omega) (by omega)) (rfl))))))

theorem fi_7 (n : Int) : Go.Sy.Tree.holds (cutVC F (lookC m1) 200 Tryd.f46 b46 (fiF n) 9 (fiC n) (7 : Nat)) = ( ((0 : Int) ≤ IntKind.u32.wrap (IntKind.u32.wrap (((IntKind.u32.wrap (↑(mag n) : Int)).tmod 10000).tmod 100 *
 2) + 1) ∧ IntKind.u32.wrap (IntKind.u32.wrap (((IntKind.u32.wrap (↑(mag n) : Int)).tmod 10000).tmod 100 * 2) + 1) < 200) ∧ ((0 : Int) ≤ IntKind.u32.wrap (((IntKind.u32.wrap (↑(mag n) : Int)).tmod 10000).tmod 100 * 2) ∧
 IntKind.u32.wrap (((IntKind.u32.wrap (↑(mag n) : Int)).tmod 10000).tmod 100 * 2) < 200) ∧ ((0 : Int) ≤ IntKind.u32.wrap (IntKind.u32.wrap (IntKind.u32.wrap (((IntKind.u32.wrap (↑(mag n) : Int)).tmod 10000).tdiv 100) * 2)
 + 1) ∧ IntKind.u32.wrap (IntKind.u32.wrap (IntKind.u32.wrap (((IntKind.u32.wrap (↑(mag n) : Int)).tmod 10000).tdiv 100) * 2) + 1) < 200) ∧ ((0 : Int) ≤ IntKind.u32.wrap (IntKind.u32.wrap (((IntKind.u32.wrap (↑(mag n) :
 Int)).tmod 10000).tdiv 100) * 2) ∧ IntKind.u32.wrap (IntKind.u32.wrap (((IntKind.u32.wrap (↑(mag n) : Int)).tmod 10000).tdiv 100) * 2) < 200) ∧ ((0 : Int) ≤ IntKind.u32.wrap (IntKind.u32.wrap ((IntKind.u32.wrap
 ((IntKind.u32.wrap (↑(mag n) : Int)).tdiv 10000)).tmod 100 * 2) + 1) ∧ IntKind.u32.wrap (IntKind.u32.wrap ((IntKind.u32.wrap ((IntKind.u32.wrap (↑(mag n) : Int)).tdiv 10000)).tmod 100 * 2) + 1) < 200) ∧ ((0 : Int) ≤
 IntKind.u32.wrap ((IntKind.u32.wrap ((IntKind.u32.wrap (↑(mag n) : Int)).tdiv 10000)).tmod 100 * 2) ∧ IntKind.u32.wrap ((IntKind.u32.wrap ((IntKind.u32.wrap (↑(mag n) : Int)).tdiv 10000)).tmod 100 * 2) < 200) ∧ (decide
 (n < 0) = true → [UInt8.ofNat (45 : Nat), UInt8.ofNat (IntKind.u8.wrap (IntKind.u32.wrap ((48 : Int) + IntKind.u32.wrap ((IntKind.u32.wrap ((IntKind.u32.wrap (↑(mag n) : Int)).tdiv 10000)).tdiv 100)))).toNat, UInt8.ofNat
 (↑(tab1.getD (IntKind.u32.wrap ((IntKind.u32.wrap ((IntKind.u32.wrap (↑(mag n) : Int)).tdiv 10000)).tmod 100 * 2)).toNat (0 : UInt8)).toNat : Int).toNat, UInt8.ofNat (↑(tab1.getD (IntKind.u32.wrap (IntKind.u32.wrap
 ((IntKind.u32.wrap ((IntKind.u32.wrap (↑(mag n) : Int)).tdiv 10000)).tmod 100 * 2) + 1)).toNat (0 : UInt8)).toNat : Int).toNat, UInt8.ofNat (↑(tab1.getD (IntKind.u32.wrap (IntKind.u32.wrap (((IntKind.u32.wrap (↑(mag n) :
 Int)).tmod 10000).tdiv 100) * 2)).toNat (0 : UInt8)).toNat : Int).toNat, UInt8.ofNat (↑(tab1.getD (IntKind.u32.wrap (IntKind.u32.wrap (IntKind.u32.wrap (((IntKind.u32.wrap (↑(mag n) : Int)).tmod 10000).tdiv 100) * 2) +
 1)).toNat (0 : UInt8)).toNat : Int).toNat, UInt8.ofNat (↑(tab1.getD (IntKind.u32.wrap (((IntKind.u32.wrap (↑(mag n) : Int)).tmod 10000).tmod 100 * 2)).toNat (0 : UInt8)).toNat : Int).toNat, UInt8.ofNat (↑(tab1.getD
 (IntKind.u32.wrap (IntKind.u32.wrap (((IntKind.u32.wrap (↑(mag n) : Int)).tmod 10000).tmod 100 * 2) + 1)).toNat (0 : UInt8)).toNat : Int).toNat] = decS n ∧ True) ∧ (decide (n < 0) = false → [UInt8.ofNat (IntKind.u8.wrap
 (IntKind.u32.wrap ((48 : Int) + IntKind.u32.wrap ((IntKind.u32.wrap ((IntKind.u32.wrap (↑(mag n) : Int)).tdiv 10000)).tdiv 100)))).toNat, UInt8.ofNat (↑(tab1.getD (IntKind.u32.wrap ((IntKind.u32.wrap ((IntKind.u32.wrap
 (↑(mag n) : Int)).tdiv 10000)).tmod 100 * 2)).toNat (0 : UInt8)).toNat : Int).toNat, UInt8.ofNat (↑(tab1.getD (IntKind.u32.wrap (IntKind.u32.wrap ((IntKind.u32.wrap ((IntKind.u32.wrap (↑(mag n) : Int)).tdiv 10000)).tmod
 100 * 2) + 1)).toNat (0 : UInt8)).toNat : Int).toNat, UInt8.ofNat (↑(tab1.getD (IntKind.u32.wrap (IntKind.u32.wrap (((IntKind.u32.wrap (↑(mag n) : Int)).tmod 10000).tdiv 100) * 2)).toNat (0 : UInt8)).toNat : Int).toNat,
 UInt8.ofNat (↑(tab1.getD (IntKind.u32.wrap (IntKind.u32.wrap (IntKind.u32.wrap (((IntKind.u32.wrap (↑(mag n) : Int)).tmod 10000).tdiv 100) * 2) + 1)).toNat (0 : UInt8)).toNat : Int).toNat, UInt8.ofNat (↑(tab1.getD
 (IntKind.u32.wrap (((IntKind.u32.wrap (↑(mag n) : Int)).tmod 10000).tmod 100 * 2)).toNat (0 : UInt8)).toNat : Int).toNat, UInt8.ofNat (↑(tab1.getD (IntKind.u32.wrap (IntKind.u32.wrap (((IntKind.u32.wrap (↑(mag n) :
 Int)).tmod 10000).tmod 100 * 2) + 1)).toNat (0 : UInt8)).toNat : Int).toNat] = decS n ∧ True)) := by kernel_rfl
theorem fi_7_ok (n : Int) (m : Nat) (hm : mag n = m) (h1 : 1000000 ≤ m) (h2 : m < 10000000) : Paid (cutVC F (lookC m1) 200 Tryd.f46 b46 (fiF n) 9 (fiC n) (7 : Nat)) := by
  refine ⟨?_⟩
  rw [fi_7, hm]
  simp only [c32, c64, c8, tm2, tm4, tm8, td2, td4, td8, mu2, add1, add48, Int.toNat_natCast]
  have hd : digits m = [UInt8.ofNat (48 + m / 1000000 % 10), UInt8.ofNat (48 + m / 100000 % 10), UInt8.ofNat (48 + m / 10000 % 10), UInt8.ofNat (48 + m / 1000 % 10), UInt8.ofNat (48 + m / 100 % 10), UInt8.ofNat (48 + m / 10 % 10), UInt8.ofNat (48 + m / 1 % 10)] := digits_list 7 m (by decide) h1 h2
  refine ⟨⟨by omega, by omega⟩, ⟨by omega, by omega⟩, ⟨by omega, by omega⟩, ⟨by omega, by omega⟩, ⟨by omega, by omega⟩, ⟨by omega, by omega⟩, fun h => ⟨?_, trivial⟩, fun h => ⟨?_, trivial⟩⟩
  · simp only [decide_eq_true_eq] at h
    rw [decS, if_pos h, decN, hm, if_neg (by omega), hd]
    exact cons2 (rfl) (cons2 (congrArg UInt8.ofNat (by omega)) (cons2 (tb_even _ (m / 10000 % 100) _ (by omega) (by omega) (by omega)) (cons2 (tb_odd _ (m / 10000 % 100) _ (by omega) (by omega) (by omega)) (cons2 (tb_even _ (m / 100 % 100) _ (by omega) (by omega) (by omega)) (cons2 (tb_odd _ (m / 100 % 100) _ (by omega) (by omega) (by omega)) (cons2 (tb_even _ (m / 1 % 100) _ (by omega) (by omega) (by omega)) (cons2 (tb_odd _ (m / 1 % 100) _ (by omega) (by omega) (by omega)) (rfl))))))))
  · simp only [decide_eq_false_iff_not] at h
    rw [decS, if_neg h, decN, hm, if_neg (by omega), hd]
    exact cons2 (congrArg UInt8.ofNat (by omega)) (cons2 (tb_even _ (m / 10000 % 100) _ (by omega) (by omega) (by omega)) (cons2 (tb_odd _ (m / 10000 % 100) _ (by omega) (by omega) (by omega)) (cons2 (tb_even _ (m / 100 % 100) _ (by omega) (by omega) (by omega)) (cons2 (tb_odd _ (m / 100 % 100) _ (by omega) (by omega) (by omega)) (cons2 (tb_even _ (m / 1 % 100) _ (by omega) (by omega) (by omega)) (cons2 (tb_odd _ (m / 1 % 100) _ (by omega) (by omega) (by omega)) (rfl)))))))

theorem fi_8 (n : Int) : Go.Sy.Tree.holds (cutVC F (lookC m1) 200 Tryd.f46 b46 (fiF n) 9 (fiC n) (8 : Nat)) = ( ((0 : Int) ≤ IntKind.u32.wrap (IntKind.u32.wrap (((IntKind.u32.wrap ((↑(mag n) : Int).tmod 100000000)).tmod
 10000).tmod 100 * 2) + 1) ∧ IntKind.u32.wrap (IntKind.u32.wrap (((IntKind.u32.wrap ((↑(mag n) : Int).tmod 100000000)).tmod 10000).tmod 100 * 2) + 1) < 200) ∧ ((0 : Int) ≤ IntKind.u32.wrap (((IntKind.u32.wrap ((↑(mag n) :
 Int).tmod 100000000)).tmod 10000).tmod 100 * 2) ∧ IntKind.u32.wrap (((IntKind.u32.wrap ((↑(mag n) : Int).tmod 100000000)).tmod 10000).tmod 100 * 2) < 200) ∧ ((0 : Int) ≤ IntKind.u32.wrap (IntKind.u32.wrap
 (IntKind.u32.wrap (((IntKind.u32.wrap ((↑(mag n) : Int).tmod 100000000)).tmod 10000).tdiv 100) * 2) + 1) ∧ IntKind.u32.wrap (IntKind.u32.wrap (IntKind.u32.wrap (((IntKind.u32.wrap ((↑(mag n) : Int).tmod 100000000)).tmod
 10000).tdiv 100) * 2) + 1) < 200) ∧ ((0 : Int) ≤ IntKind.u32.wrap (IntKind.u32.wrap (((IntKind.u32.wrap ((↑(mag n) : Int).tmod 100000000)).tmod 10000).tdiv 100) * 2) ∧ IntKind.u32.wrap (IntKind.u32.wrap
 (((IntKind.u32.wrap ((↑(mag n) : Int).tmod 100000000)).tmod 10000).tdiv 100) * 2) < 200) ∧ ((0 : Int) ≤ IntKind.u32.wrap (IntKind.u32.wrap ((IntKind.u32.wrap ((IntKind.u32.wrap ((↑(mag n) : Int).tmod 100000000)).tdiv
 10000)).tmod 100 * 2) + 1) ∧ IntKind.u32.wrap (IntKind.u32.wrap ((IntKind.u32.wrap ((IntKind.u32.wrap ((↑(mag n) : Int).tmod 100000000)).tdiv 10000)).tmod 100 * 2) + 1) < 200) ∧ ((0 : Int) ≤ IntKind.u32.wrap
 ((IntKind.u32.wrap ((IntKind.u32.wrap ((↑(mag n) : Int).tmod 100000000)).tdiv 10000)).tmod 100 * 2) ∧ IntKind.u32.wrap ((IntKind.u32.wrap ((IntKind.u32.wrap ((↑(mag n) : Int).tmod 100000000)).tdiv 10000)).tmod 100 * 2) <
 200) ∧ ((0 : Int) ≤ IntKind.u32.wrap (IntKind.u32.wrap (IntKind.u32.wrap ((IntKind.u32.wrap ((IntKind.u32.wrap ((↑(mag n) : Int).tmod 100000000)).tdiv 10000)).tdiv 100) * 2) + 1) ∧ IntKind.u32.wrap (IntKind.u32.wrap
 (IntKind.u32.wrap ((IntKind.u32.wrap ((IntKind.u32.wrap ((↑(mag n) : Int).tmod 100000000)).tdiv 10000)).tdiv 100) * 2) + 1) < 200) ∧ ((0 : Int) ≤ IntKind.u32.wrap (IntKind.u32.wrap ((IntKind.u32.wrap ((IntKind.u32.wrap
 ((↑(mag n) : Int).tmod 100000000)).tdiv 10000)).tdiv 100) * 2) ∧ IntKind.u32.wrap (IntKind.u32.wrap ((IntKind.u32.wrap ((IntKind.u32.wrap ((↑(mag n) : Int).tmod 100000000)).tdiv 10000)).tdiv 100) * 2) < 200) ∧ (decide (n
 < 0) = true → [UInt8.ofNat (45 : Nat), UInt8.ofNat (↑(tab1.getD (IntKind.u32.wrap (IntKind.u32.wrap ((IntKind.u32.wrap ((IntKind.u32.wrap ((↑(mag n) : Int).tmod 100000000)).tdiv 10000)).tdiv 100) * 2)).toNat (0 :
 UInt8)).toNat : Int).toNat, UInt8.ofNat (↑(tab1.getD (IntKind.u32.wrap (IntKind.u32.wrap (IntKind.u32.wrap ((IntKind.u32.wrap ((IntKind.u32.wrap ((↑(mag n) : Int).tmod 100000000)).tdiv 10000)).tdiv 100) * 2) + 1)).toNat
 (0 : UInt8)).toNat : Int).toNat, UInt8.ofNat (↑(tab1.getD (IntKind.u32.wrap ((IntKind.u32.wrap ((IntKind.u32.wrap ((↑(mag n) : Int).tmod 100000000)).tdiv 10000)).tmod 100 * 2)).toNat (0 : UInt8)).toNat : Int).toNat,
 UInt8.ofNat (↑(tab1.getD (IntKind.u32.wrap (IntKind.u32.wrap ((IntKind.u32.wrap ((IntKind.u32.wrap ((↑(mag n) : Int).tmod 100000000)).tdiv 10000)).tmod 100 * 2) + 1)).toNat (0 : UInt8)).toNat : Int).toNat, UInt8.ofNat
 (↑(tab1.getD (IntKind.u32.wrap (IntKind.u32.wrap (((IntKind.u32.wrap ((↑(mag n) : Int).tmod 100000000)).tmod 10000).tdiv 100) * 2)).toNat (0 : UInt8)).toNat : Int).toNat, UInt8.ofNat (↑(tab1.getD (IntKind.u32.wrap
 (IntKind.u32.wrap (IntKind.u32.wrap (((IntKind.u32.wrap ((↑(mag n) : Int).tmod 100000000)).tmod 10000).tdiv 100) * 2) + 1)).toNat (0 : UInt8)).toNat : Int).toNat, UInt8.ofNat (↑(tab1.getD (IntKind.u32.wrap
 (((IntKind.u32.wrap ((↑(mag n) : Int).tmod 100000000)).tmod 10000).tmod 100 * 2)).toNat (0 : UInt8)).toNat : Int).toNat, UInt8.ofNat (↑(tab1.getD (IntKind.u32.wrap (IntKind.u32.wrap (((IntKind.u32.wrap ((↑(mag n) :
 Int).tmod 100000000)).tmod 10000).tmod 100 * 2) + 1)).toNat (0 : UInt8)).toNat : Int).toNat] = decS n ∧ True) ∧ (decide (n < 0) = false → [UInt8.ofNat (↑(tab1.getD (IntKind.u32.wrap (IntKind.u32.wrap ((IntKind.u32.wrap
 ((IntKind.u32.wrap ((↑(mag n) : Int).tmod 100000000)).tdiv 10000)).tdiv 100) * 2)).toNat (0 : UInt8)).toNat : Int).toNat, UInt8.ofNat (↑(tab1.getD (IntKind.u32.wrap (IntKind.u32.wrap (IntKind.u32.wrap ((IntKind.u32.wrap
 ((IntKind.u32.wrap ((↑(mag n) : Int).tmod 100000000)).tdiv 10000)).tdiv 100) * 2) + 1)).toNat (0 : UInt8)).toNat : Int).toNat, UInt8.ofNat (↑(tab1.getD (IntKind.u32.wrap ((IntKind.u32.wrap ((IntKind.u32.wrap ((↑(mag n) :
 Int).tmod 100000000)).tdiv 10000)).tmod 100 * 2)).toNat (0 : UInt8)).toNat : Int).toNat, UInt8.ofNat (↑(tab1.getD (IntKind.u32.wrap (IntKind.u32.wrap ((IntKind.u32.wrap ((IntKind.u32.wrap ((↑(mag n) : Int).tmod
 100000000)).tdiv 10000)).tmod 100 * 2) + 1)).toNat (0 : UInt8)).toNat : Int).toNat, UInt8.ofNat (↑(tab1.getD (IntKind.u32.wrap (IntKind.u32.wrap (((IntKind.u32.wrap ((↑(mag n) : Int).tmod 100000000)).tmod 10000).tdiv
 100) * 2)).toNat (0 : UInt8)).toNat : Int).toNat, UInt8.ofNat (↑(tab1.getD (IntKind.u32.wrap (IntKind.u32.wrap (IntKind.u32.wrap (((IntKind.u32.wrap ((↑(mag n) : Int).tmod 100000000)).tmod 10000).tdiv 100) * 2) +
 1)).toNat (0 : UInt8)).toNat : Int).toNat, UInt8.ofNat (↑(tab1.getD (IntKind.u32.wrap (((IntKind.u32.wrap ((↑(mag n) : Int).tmod 100000000)).tmod 10000).tmod 100 * 2)).toNat (0 : UInt8)).toNat : Int).toNat, UInt8.ofNat
 (↑(tab1.getD (IntKind.u32.wrap (IntKind.u32.wrap (((IntKind.u32.wrap ((↑(mag n) : Int).tmod 100000000)).tmod 10000).tmod 100 * 2) + 1)).toNat (0 : UInt8)).toNat : Int).toNat] = decS n ∧ True)) := by kernel_rfl
theorem fi_8_ok (n : Int) (m : Nat) (hm : mag n = m) (h1 : 10000000 ≤ m) (h2 : m < 100000000) : Paid (cutVC F (lookC m1) 200 Tryd.f46 b46 (fiF n) 9 (fiC n) (8 : Nat)) := by
  refine ⟨?_⟩
  rw [fi_8, hm]
  simp only [c32, c64, c8, tm2, tm4, tm8, td2, td4, td8, mu2, add1, add48, Int.toNat_natCast]
  have hd : digits m = [UInt8.ofNat (48 + m / 10000000 % 10), UInt8.ofNat (48 + m / 1000000 % 10), UInt8.ofNat (48 + m / 100000 % 10), UInt8.ofNat (48 + m / 10000 % 10), UInt8.ofNat (48 + m / 1000 % 10), UInt8.ofNat (48 + m / 100 % 10), UInt8.ofNat (48 + m / 10 % 10), UInt8.ofNat (48 + m / 1 % 10)] := digits_list 8 m (by decide) h1 h2
  refine ⟨⟨by omega, by omega⟩, ⟨by omega, by omega⟩, ⟨by omega, by omega⟩, ⟨by omega, by omega⟩, ⟨by omega, by omega⟩, ⟨by omega, by omega⟩, ⟨by omega, by omega⟩, ⟨by omega, by omega⟩, fun h => ⟨?_, trivial⟩, fun h => ⟨?_, trivial⟩⟩
  · simp only [decide_eq_true_eq] at h
    rw [decS, if_pos h, decN, hm, if_neg (by omega), hd]
    exact cons2 (rfl) (cons2 (tb_even _ (m / 1000000 % 100) _ (by omega) (by omega) (by omega)) (cons2 (tb_odd _ (m / 1000000 % 100) _ (by omega) (by omega) (by omega)) (cons2 (tb_even _ (m / 10000 % 100) _ (by omega) (by omega) (by omega)) (cons2 (tb_odd _ (m / 10000 % 100) _ (by omega) (by omega) (by omega)) (cons2 (tb_even _ (m / 100 % 100) _ (by omega) (by omega) (by omega)) (cons2 (tb_odd _ (m / 100 % 100) _ (by omega) (by omega) (by omega)) (cons2 (tb_even _ (m / 1 % 100) _ (by omega) (by omega) (by omega)) (cons2 (tb_odd _ (m / 1 % 100) _ (by omega) (by omega) (by omega)) (rfl)))))))))
  · simp only [decide_eq_false_iff_not] at h
    rw [decS, if_neg h, decN, hm, if_neg (by omega), hd]
    exact cons2 (tb_even _ (m / 1000000 % 100) _ (by omega) (by omega) (by omega)) (cons2 (tb_odd _ (m / 1000000 % 100) _ (by omega) (by omega) (by omega)) (cons2 (tb_even _ (m / 10000 % 100) _ (by omega) (by omega) (by omega)) (cons2 (tb_odd _ (m / 10000 % 100) _ (by omega) (by omega) (by omega)) (cons2 (tb_even _ (m / 100 % 100) _ (by omega) (by omega) (by omega)) (cons2 (tb_odd _ (m / 100 % 100) _ (by omega) (by omega) (by omega)) (cons2 (tb_even _ (m / 1 % 100) _ (by omega) (by omega) (by omega)) (cons2 (tb_odd _ (m / 1 % 100) _ (by omega) (by omega) (by omega)) (rfl))))))))
end Go.Proofs.YtomlcdalhihnaaaDoor

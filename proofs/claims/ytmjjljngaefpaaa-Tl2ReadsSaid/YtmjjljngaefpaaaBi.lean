/- Marks of stripes: what masks and shifts make of small numbers. -/
import Derived.Test.YtmjjljngaefpaaaSx
namespace Go.Proofs.Ytmjjljngaefpaaa
open Go.RowKit Go.Am Go.Sy
open Go.IntKind (i64 u64)
set_option linter.unusedVariables false
theorem wrap_id {n : Int} (h0 : 0 ≤ n) (h1 : n < 9223372036854775808) : i64.wrap n = n := wrap64 (by omega) (by omega)
theorem ofI {x : Int} (h0 : 0 ≤ x) (h1 : x < 1099511627776) : (BitVec.ofInt i64.bits x).toNat = x.toNat := by
 rw [BitVec.toNat_ofInt]
 have : i64.bits = 64 := rfl
 rw [this]
 congr 1
 omega
theorem and15 {x : Int} (h0 : 0 ≤ x) (h1 : x < 1099511627776) : i64.wrap ((BitVec.ofInt i64.bits x &&& BitVec.ofInt i64.bits 15).toNat : Int) = x % 16 := by
 rw [BitVec.toNat_and,ofI h0 h1,ofI (by decide) (by decide),show (15 : Int).toNat = 2 ^ 4 - 1 by decide,Nat.and_two_pow_sub_one_eq_mod]
 obtain ⟨n,rfl⟩ : ∃ n : Nat,x = n := ⟨x.toNat,by omega⟩
 rw [wrap_id (by omega) (by simp only [Int.toNat_natCast]; omega)]
 simp only [Int.toNat_natCast]
 omega
theorem and_high (n : Nat) (h : n < 18446744073709551616) : n &&& 18446744073709551600 = 2 ^ 4 * (n / 16) := by
 refine Nat.eq_of_testBit_eq fun i => ?_
 rw [Nat.testBit_and,show (18446744073709551600 : Nat) = 2 ^ 4 * (2 ^ 60 - 1) by decide,Nat.testBit_two_pow_mul,Nat.testBit_two_pow_mul,Nat.testBit_two_pow_sub_one]
 by_cases hi : 4 ≤ i
 ·have e : (n / 16).testBit (i - 4) = n.testBit i := by
   rw [show (16 : Nat) = 2 ^ 4 by decide,Nat.testBit_div_two_pow,show i - 4 + 4 = i by omega]
  rw [e]
  by_cases h2 : i - 4 < 60
  ·simp [hi,h2]
  ·have : n.testBit i = false := Nat.testBit_lt_two_pow (Nat.lt_of_lt_of_le h (by
    calc 18446744073709551616 = 2 ^ 64 := by decide
     _ ≤ 2 ^ i := Nat.pow_le_pow_right (by decide) (by omega)))
   simp [this]
 ·simp [hi]
theorem taken_bits {x t : Int} (h0 : 0 ≤ x) (h1 : x < 1099511627776) (h2 : 0 ≤ t) (h3 : t < 3) :
 i64.wrap ((BitVec.ofInt i64.bits (i64.wrap ((BitVec.ofInt i64.bits x &&& ~~~BitVec.ofInt i64.bits 15).toNat : Int)) ||| BitVec.ofInt i64.bits (i64.wrap (t + 1))).toNat : Int) = x - x % 16 + t + 1 := by
 obtain ⟨n,rfl⟩ : ∃ n : Nat,x = n := ⟨x.toNat,by omega⟩
 obtain ⟨k,rfl⟩ : ∃ k : Nat,t = k := ⟨t.toNat,by omega⟩
 have e1 : (BitVec.ofInt i64.bits (n : Int) &&& ~~~BitVec.ofInt i64.bits 15).toNat = 2 ^ 4 * (n / 16) := by
  rw [BitVec.toNat_and,ofI h0 h1,BitVec.toNat_not,ofI (by decide) (by decide)]
  show (n : Int).toNat &&& 18446744073709551600 = _
  rw [Int.toNat_natCast]
  exact and_high n (by omega)
 rw [e1,wrap_id (n := ((2 ^ 4 * (n / 16) : Nat) : Int)) (by omega) (by omega),wrap_id (n := (k : Int) + 1) (by omega) (by omega),BitVec.toNat_or,ofI (by omega) (by omega),ofI (by omega) (by omega),Int.toNat_natCast,show ((k : Int) + 1).toNat = k + 1 by omega,
  ← Nat.two_pow_add_eq_or_of_lt (by omega : k + 1 < 2 ^ 4),wrap_id (by omega) (by omega)]
 omega
end Go.Proofs.Ytmjjljngaefpaaa

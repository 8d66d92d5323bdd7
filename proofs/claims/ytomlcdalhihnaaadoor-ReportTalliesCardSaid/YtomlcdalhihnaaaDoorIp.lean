/- strconv: how many digits; the contracts of Len64 and numDigits are paid. -/
import Derived.Test.YtomlcdalhihnaaaDoorIt
namespace Go.Proofs.YtomlcdalhihnaaaDoor
open Go.RowKit Go.Am Go.Sy
set_option linter.unusedVariables false

theorem len_e (x : Int) : Go.Sy.Tree.holds (entryX F (fun _ => none) 200 Tryd.f52 b52 ⟨[], .i .i64 (len64 x), []⟩ [.i .u64 x]) = ( (decide (x ≥ (4294967296 : Int)) = true → (0 : Int) ≤ (32 : Int) ∧ (decide (x.fdiv
 (4294967296 : Int) ≥ (65536 : Int)) = true → (0 : Int) ≤ (16 : Int) ∧ (decide ((x.fdiv (4294967296 : Int)).fdiv (65536 : Int) ≥ (256 : Int)) = true → (0 : Int) ≤ (8 : Int) ∧ ((0 : Int) ≤ IntKind.u8.wrap (((x.fdiv
 (4294967296 : Int)).fdiv (65536 : Int)).fdiv (256 : Int)) ∧ IntKind.u8.wrap (((x.fdiv (4294967296 : Int)).fdiv (65536 : Int)).fdiv (256 : Int)) < (256 : Int)) ∧ IntKind.i64.wrap ((56 : Int) + IntKind.i64.wrap
 (↑(tab0.getD (IntKind.u8.wrap (((x.fdiv (4294967296 : Int)).fdiv (65536 : Int)).fdiv (256 : Int))).toNat (0 : UInt8)).toNat : Int)) = len64 x ∧ True) ∧ (decide ((x.fdiv (4294967296 : Int)).fdiv (65536 : Int) ≥ (256 :
 Int)) = false → ((0 : Int) ≤ IntKind.u8.wrap ((x.fdiv (4294967296 : Int)).fdiv (65536 : Int)) ∧ IntKind.u8.wrap ((x.fdiv (4294967296 : Int)).fdiv (65536 : Int)) < (256 : Int)) ∧ IntKind.i64.wrap ((48 : Int) +
 IntKind.i64.wrap (↑(tab0.getD (IntKind.u8.wrap ((x.fdiv (4294967296 : Int)).fdiv (65536 : Int))).toNat (0 : UInt8)).toNat : Int)) = len64 x ∧ True)) ∧ (decide (x.fdiv (4294967296 : Int) ≥ (65536 : Int)) = false → (decide
 (x.fdiv (4294967296 : Int) ≥ (256 : Int)) = true → (0 : Int) ≤ (8 : Int) ∧ ((0 : Int) ≤ IntKind.u8.wrap ((x.fdiv (4294967296 : Int)).fdiv (256 : Int)) ∧ IntKind.u8.wrap ((x.fdiv (4294967296 : Int)).fdiv (256 : Int)) <
 (256 : Int)) ∧ IntKind.i64.wrap ((40 : Int) + IntKind.i64.wrap (↑(tab0.getD (IntKind.u8.wrap ((x.fdiv (4294967296 : Int)).fdiv (256 : Int))).toNat (0 : UInt8)).toNat : Int)) = len64 x ∧ True) ∧ (decide (x.fdiv
 (4294967296 : Int) ≥ (256 : Int)) = false → ((0 : Int) ≤ IntKind.u8.wrap (x.fdiv (4294967296 : Int)) ∧ IntKind.u8.wrap (x.fdiv (4294967296 : Int)) < (256 : Int)) ∧ IntKind.i64.wrap ((32 : Int) + IntKind.i64.wrap
 (↑(tab0.getD (IntKind.u8.wrap (x.fdiv (4294967296 : Int))).toNat (0 : UInt8)).toNat : Int)) = len64 x ∧ True))) ∧ (decide (x ≥ (4294967296 : Int)) = false → (decide (x ≥ (65536 : Int)) = true → (0 : Int) ≤ (16 : Int) ∧
 (decide (x.fdiv (65536 : Int) ≥ (256 : Int)) = true → (0 : Int) ≤ (8 : Int) ∧ ((0 : Int) ≤ IntKind.u8.wrap ((x.fdiv (65536 : Int)).fdiv (256 : Int)) ∧ IntKind.u8.wrap ((x.fdiv (65536 : Int)).fdiv (256 : Int)) < (256 :
 Int)) ∧ IntKind.i64.wrap ((24 : Int) + IntKind.i64.wrap (↑(tab0.getD (IntKind.u8.wrap ((x.fdiv (65536 : Int)).fdiv (256 : Int))).toNat (0 : UInt8)).toNat : Int)) = len64 x ∧ True) ∧ (decide (x.fdiv (65536 : Int) ≥ (256 :
 Int)) = false → ((0 : Int) ≤ IntKind.u8.wrap (x.fdiv (65536 : Int)) ∧ IntKind.u8.wrap (x.fdiv (65536 : Int)) < (256 : Int)) ∧ IntKind.i64.wrap ((16 : Int) + IntKind.i64.wrap (↑(tab0.getD (IntKind.u8.wrap (x.fdiv (65536 :
 Int))).toNat (0 : UInt8)).toNat : Int)) = len64 x ∧ True)) ∧ (decide (x ≥ (65536 : Int)) = false → (decide (x ≥ (256 : Int)) = true → (0 : Int) ≤ (8 : Int) ∧ ((0 : Int) ≤ IntKind.u8.wrap (x.fdiv (256 : Int)) ∧
 IntKind.u8.wrap (x.fdiv (256 : Int)) < (256 : Int)) ∧ IntKind.i64.wrap ((8 : Int) + IntKind.i64.wrap (↑(tab0.getD (IntKind.u8.wrap (x.fdiv (256 : Int))).toNat (0 : UInt8)).toNat : Int)) = len64 x ∧ True) ∧ (decide (x ≥
 (256 : Int)) = false → ((0 : Int) ≤ IntKind.u8.wrap x ∧ IntKind.u8.wrap x < (256 : Int)) ∧ IntKind.i64.wrap ((0 : Int) + IntKind.i64.wrap (↑(tab0.getD (IntKind.u8.wrap x).toNat (0 : UInt8)).toNat : Int)) = len64 x ∧
 True)))) := by kernel_rfl
theorem nd_e (u : Int) : Go.Sy.Tree.holds (entryX F (lookC m0) 200 Tryd.f48 b48 ⟨[], .i .i64 ((digits u.toNat).length : Int), []⟩ [.i .u64 u]) = ( lenD.pre (u, ()) ∧ (0 : Int) ≤ (18 : Int) ∧ ((0 : Int) ≤ (IntKind.i64.wrap
 (len64 u * (78913 : Int))).fdiv (262144 : Int) ∧ (IntKind.i64.wrap (len64 u * (78913 : Int))).fdiv (262144 : Int) < (20 : Int)) ∧ (((IntKind.i64.wrap (len64 u * (78913 : Int))).fdiv (262144 : Int) == (19 : Int)) = true →
 (decide (u ≥ (10000000000000000000 : Int)) = true → IntKind.i64.wrap ((IntKind.i64.wrap (len64 u * (78913 : Int))).fdiv (262144 : Int) + (1 : Int)) = (↑(digits u.toNat).length : Int) ∧ True) ∧ (decide (u ≥
 (10000000000000000000 : Int)) = false → IntKind.i64.wrap ((IntKind.i64.wrap (len64 u * (78913 : Int))).fdiv (262144 : Int) + (0 : Int)) = (↑(digits u.toNat).length : Int) ∧ True)) ∧ (((IntKind.i64.wrap (len64 u * (78913
 : Int))).fdiv (262144 : Int) == (19 : Int)) = false → (((IntKind.i64.wrap (len64 u * (78913 : Int))).fdiv (262144 : Int) == (18 : Int)) = true → (decide (u ≥ (1000000000000000000 : Int)) = true → IntKind.i64.wrap
 ((IntKind.i64.wrap (len64 u * (78913 : Int))).fdiv (262144 : Int) + (1 : Int)) = (↑(digits u.toNat).length : Int) ∧ True) ∧ (decide (u ≥ (1000000000000000000 : Int)) = false → IntKind.i64.wrap ((IntKind.i64.wrap (len64 u
 * (78913 : Int))).fdiv (262144 : Int) + (0 : Int)) = (↑(digits u.toNat).length : Int) ∧ True)) ∧ (((IntKind.i64.wrap (len64 u * (78913 : Int))).fdiv (262144 : Int) == (18 : Int)) = false → (((IntKind.i64.wrap (len64 u *
 (78913 : Int))).fdiv (262144 : Int) == (17 : Int)) = true → (decide (u ≥ (100000000000000000 : Int)) = true → IntKind.i64.wrap ((IntKind.i64.wrap (len64 u * (78913 : Int))).fdiv (262144 : Int) + (1 : Int)) = (↑(digits
 u.toNat).length : Int) ∧ True) ∧ (decide (u ≥ (100000000000000000 : Int)) = false → IntKind.i64.wrap ((IntKind.i64.wrap (len64 u * (78913 : Int))).fdiv (262144 : Int) + (0 : Int)) = (↑(digits u.toNat).length : Int) ∧
 True)) ∧ (((IntKind.i64.wrap (len64 u * (78913 : Int))).fdiv (262144 : Int) == (17 : Int)) = false → (((IntKind.i64.wrap (len64 u * (78913 : Int))).fdiv (262144 : Int) == (16 : Int)) = true → (decide (u ≥
 (10000000000000000 : Int)) = true → IntKind.i64.wrap ((IntKind.i64.wrap (len64 u * (78913 : Int))).fdiv (262144 : Int) + (1 : Int)) = (↑(digits u.toNat).length : Int) ∧ True) ∧ (decide (u ≥ (10000000000000000 : Int)) =
 false → IntKind.i64.wrap ((IntKind.i64.wrap (len64 u * (78913 : Int))).fdiv (262144 : Int) + (0 : Int)) = (↑(digits u.toNat).length : Int) ∧ True)) ∧ (((IntKind.i64.wrap (len64 u * (78913 : Int))).fdiv (262144 : Int) ==
 (16 : Int)) = false → (((IntKind.i64.wrap (len64 u * (78913 : Int))).fdiv (262144 : Int) == (15 : Int)) = true → (decide (u ≥ (1000000000000000 : Int)) = true → IntKind.i64.wrap ((IntKind.i64.wrap (len64 u * (78913 :
 Int))).fdiv (262144 : Int) + (1 : Int)) = (↑(digits u.toNat).length : Int) ∧ True) ∧ (decide (u ≥ (1000000000000000 : Int)) = false → IntKind.i64.wrap ((IntKind.i64.wrap (len64 u * (78913 : Int))).fdiv (262144 : Int) +
 (0 : Int)) = (↑(digits u.toNat).length : Int) ∧ True)) ∧ (((IntKind.i64.wrap (len64 u * (78913 : Int))).fdiv (262144 : Int) == (15 : Int)) = false → (((IntKind.i64.wrap (len64 u * (78913 : Int))).fdiv (262144 : Int) ==
 (14 : Int)) = true → (decide (u ≥ (100000000000000 : Int)) = true → IntKind.i64.wrap ((IntKind.i64.wrap (len64 u * (78913 : Int))).fdiv (262144 : Int) + (1 : Int)) = (↑(digits u.toNat).length : Int) ∧ True) ∧ (decide (u
 ≥ (100000000000000 : Int)) = false → IntKind.i64.wrap ((IntKind.i64.wrap (len64 u * (78913 : Int))).fdiv (262144 : Int) + (0 : Int)) = (↑(digits u.toNat).length : Int) ∧ True)) ∧ (((IntKind.i64.wrap (len64 u * (78913 :
 Int))).fdiv (262144 : Int) == (14 : Int)) = false → (((IntKind.i64.wrap (len64 u * (78913 : Int))).fdiv (262144 : Int) == (13 : Int)) = true → (decide (u ≥ (10000000000000 : Int)) = true → IntKind.i64.wrap
 ((IntKind.i64.wrap (len64 u * (78913 : Int))).fdiv (262144 : Int) + (1 : Int)) = (↑(digits u.toNat).length : Int) ∧ True) ∧ (decide (u ≥ (10000000000000 : Int)) = false → IntKind.i64.wrap ((IntKind.i64.wrap (len64 u *
 (78913 : Int))).fdiv (262144 : Int) + (0 : Int)) = (↑(digits u.toNat).length : Int) ∧ True)) ∧ (((IntKind.i64.wrap (len64 u * (78913 : Int))).fdiv (262144 : Int) == (13 : Int)) = false → (((IntKind.i64.wrap (len64 u *
 (78913 : Int))).fdiv (262144 : Int) == (12 : Int)) = true → (decide (u ≥ (1000000000000 : Int)) = true → IntKind.i64.wrap ((IntKind.i64.wrap (len64 u * (78913 : Int))).fdiv (262144 : Int) + (1 : Int)) = (↑(digits
 u.toNat).length : Int) ∧ True) ∧ (decide (u ≥ (1000000000000 : Int)) = false → IntKind.i64.wrap ((IntKind.i64.wrap (len64 u * (78913 : Int))).fdiv (262144 : Int) + (0 : Int)) = (↑(digits u.toNat).length : Int) ∧ True)) ∧
 (((IntKind.i64.wrap (len64 u * (78913 : Int))).fdiv (262144 : Int) == (12 : Int)) = false → (((IntKind.i64.wrap (len64 u * (78913 : Int))).fdiv (262144 : Int) == (11 : Int)) = true → (decide (u ≥ (100000000000 : Int)) =
 true → IntKind.i64.wrap ((IntKind.i64.wrap (len64 u * (78913 : Int))).fdiv (262144 : Int) + (1 : Int)) = (↑(digits u.toNat).length : Int) ∧ True) ∧ (decide (u ≥ (100000000000 : Int)) = false → IntKind.i64.wrap
 ((IntKind.i64.wrap (len64 u * (78913 : Int))).fdiv (262144 : Int) + (0 : Int)) = (↑(digits u.toNat).length : Int) ∧ True)) ∧ (((IntKind.i64.wrap (len64 u * (78913 : Int))).fdiv (262144 : Int) == (11 : Int)) = false →
 (((IntKind.i64.wrap (len64 u * (78913 : Int))).fdiv (262144 : Int) == (10 : Int)) = true → (decide (u ≥ (10000000000 : Int)) = true → IntKind.i64.wrap ((IntKind.i64.wrap (len64 u * (78913 : Int))).fdiv (262144 : Int) +
 (1 : Int)) = (↑(digits u.toNat).length : Int) ∧ True) ∧ (decide (u ≥ (10000000000 : Int)) = false → IntKind.i64.wrap ((IntKind.i64.wrap (len64 u * (78913 : Int))).fdiv (262144 : Int) + (0 : Int)) = (↑(digits
 u.toNat).length : Int) ∧ True)) ∧ (((IntKind.i64.wrap (len64 u * (78913 : Int))).fdiv (262144 : Int) == (10 : Int)) = false → (((IntKind.i64.wrap (len64 u * (78913 : Int))).fdiv (262144 : Int) == (9 : Int)) = true →
 (decide (u ≥ (1000000000 : Int)) = true → IntKind.i64.wrap ((IntKind.i64.wrap (len64 u * (78913 : Int))).fdiv (262144 : Int) + (1 : Int)) = (↑(digits u.toNat).length : Int) ∧ True) ∧ (decide (u ≥ (1000000000 : Int)) =
 false → IntKind.i64.wrap ((IntKind.i64.wrap (len64 u * (78913 : Int))).fdiv (262144 : Int) + (0 : Int)) = (↑(digits u.toNat).length : Int) ∧ True)) ∧ (((IntKind.i64.wrap (len64 u * (78913 : Int))).fdiv (262144 : Int) ==
 (9 : Int)) = false → (((IntKind.i64.wrap (len64 u * (78913 : Int))).fdiv (262144 : Int) == (8 : Int)) = true → (decide (u ≥ (100000000 : Int)) = true → IntKind.i64.wrap ((IntKind.i64.wrap (len64 u * (78913 : Int))).fdiv
 (262144 : Int) + (1 : Int)) = (↑(digits u.toNat).length : Int) ∧ True) ∧ (decide (u ≥ (100000000 : Int)) = false → IntKind.i64.wrap ((IntKind.i64.wrap (len64 u * (78913 : Int))).fdiv (262144 : Int) + (0 : Int)) =
 (↑(digits u.toNat).length : Int) ∧ True)) ∧ (((IntKind.i64.wrap (len64 u * (78913 : Int))).fdiv (262144 : Int) == (8 : Int)) = false → (((IntKind.i64.wrap (len64 u * (78913 : Int))).fdiv (262144 : Int) == (7 : Int)) =
 true → (decide (u ≥ (10000000 : Int)) = true → IntKind.i64.wrap ((IntKind.i64.wrap (len64 u * (78913 : Int))).fdiv (262144 : Int) + (1 : Int)) = (↑(digits u.toNat).length : Int) ∧ True) ∧ (decide (u ≥ (10000000 : Int)) =
 false → IntKind.i64.wrap ((IntKind.i64.wrap (len64 u * (78913 : Int))).fdiv (262144 : Int) + (0 : Int)) = (↑(digits u.toNat).length : Int) ∧ True)) ∧ (((IntKind.i64.wrap (len64 u * (78913 : Int))).fdiv (262144 : Int) ==
 (7 : Int)) = false → (((IntKind.i64.wrap (len64 u * (78913 : Int))).fdiv (262144 : Int) == (6 : Int)) = true → (decide (u ≥ (1000000 : Int)) = true → IntKind.i64.wrap ((IntKind.i64.wrap (len64 u * (78913 : Int))).fdiv
 (262144 : Int) + (1 : Int)) = (↑(digits u.toNat).length : Int) ∧ True) ∧ (decide (u ≥ (1000000 : Int)) = false → IntKind.i64.wrap ((IntKind.i64.wrap (len64 u * (78913 : Int))).fdiv (262144 : Int) + (0 : Int)) = (↑(digits
 u.toNat).length : Int) ∧ True)) ∧ (((IntKind.i64.wrap (len64 u * (78913 : Int))).fdiv (262144 : Int) == (6 : Int)) = false → (((IntKind.i64.wrap (len64 u * (78913 : Int))).fdiv (262144 : Int) == (5 : Int)) = true →
 (decide (u ≥ (100000 : Int)) = true → IntKind.i64.wrap ((IntKind.i64.wrap (len64 u * (78913 : Int))).fdiv (262144 : Int) + (1 : Int)) = (↑(digits u.toNat).length : Int) ∧ True) ∧ (decide (u ≥ (100000 : Int)) = false →
 IntKind.i64.wrap ((IntKind.i64.wrap (len64 u * (78913 : Int))).fdiv (262144 : Int) + (0 : Int)) = (↑(digits u.toNat).length : Int) ∧ True)) ∧ (((IntKind.i64.wrap (len64 u * (78913 : Int))).fdiv (262144 : Int) == (5 :
 Int)) = false → (((IntKind.i64.wrap (len64 u * (78913 : Int))).fdiv (262144 : Int) == (4 : Int)) = true → (decide (u ≥ (10000 : Int)) = true → IntKind.i64.wrap ((IntKind.i64.wrap (len64 u * (78913 : Int))).fdiv (262144 :
 Int) + (1 : Int)) = (↑(digits u.toNat).length : Int) ∧ True) ∧ (decide (u ≥ (10000 : Int)) = false → IntKind.i64.wrap ((IntKind.i64.wrap (len64 u * (78913 : Int))).fdiv (262144 : Int) + (0 : Int)) = (↑(digits
 u.toNat).length : Int) ∧ True)) ∧ (((IntKind.i64.wrap (len64 u * (78913 : Int))).fdiv (262144 : Int) == (4 : Int)) = false → (((IntKind.i64.wrap (len64 u * (78913 : Int))).fdiv (262144 : Int) == (3 : Int)) = true →
 (decide (u ≥ (1000 : Int)) = true → IntKind.i64.wrap ((IntKind.i64.wrap (len64 u * (78913 : Int))).fdiv (262144 : Int) + (1 : Int)) = (↑(digits u.toNat).length : Int) ∧ True) ∧ (decide (u ≥ (1000 : Int)) = false →
 IntKind.i64.wrap ((IntKind.i64.wrap (len64 u * (78913 : Int))).fdiv (262144 : Int) + (0 : Int)) = (↑(digits u.toNat).length : Int) ∧ True)) ∧ (((IntKind.i64.wrap (len64 u * (78913 : Int))).fdiv (262144 : Int) == (3 :
 Int)) = false → (((IntKind.i64.wrap (len64 u * (78913 : Int))).fdiv (262144 : Int) == (2 : Int)) = true → (decide (u ≥ (100 : Int)) = true → IntKind.i64.wrap ((IntKind.i64.wrap (len64 u * (78913 : Int))).fdiv (262144 :
 Int) + (1 : Int)) = (↑(digits u.toNat).length : Int) ∧ True) ∧ (decide (u ≥ (100 : Int)) = false → IntKind.i64.wrap ((IntKind.i64.wrap (len64 u * (78913 : Int))).fdiv (262144 : Int) + (0 : Int)) = (↑(digits
 u.toNat).length : Int) ∧ True)) ∧ (((IntKind.i64.wrap (len64 u * (78913 : Int))).fdiv (262144 : Int) == (2 : Int)) = false → (((IntKind.i64.wrap (len64 u * (78913 : Int))).fdiv (262144 : Int) == (1 : Int)) = true →
 (decide (u ≥ (10 : Int)) = true → IntKind.i64.wrap ((IntKind.i64.wrap (len64 u * (78913 : Int))).fdiv (262144 : Int) + (1 : Int)) = (↑(digits u.toNat).length : Int) ∧ True) ∧ (decide (u ≥ (10 : Int)) = false →
 IntKind.i64.wrap ((IntKind.i64.wrap (len64 u * (78913 : Int))).fdiv (262144 : Int) + (0 : Int)) = (↑(digits u.toNat).length : Int) ∧ True)) ∧ (((IntKind.i64.wrap (len64 u * (78913 : Int))).fdiv (262144 : Int) == (1 :
 Int)) = false → (decide (u ≥ (1 : Int)) = true → IntKind.i64.wrap ((IntKind.i64.wrap (len64 u * (78913 : Int))).fdiv (262144 : Int) + (1 : Int)) = (↑(digits u.toNat).length : Int) ∧ True) ∧ (decide (u ≥ (1 : Int)) =
 false → IntKind.i64.wrap ((IntKind.i64.wrap (len64 u * (78913 : Int))).fdiv (262144 : Int) + (0 : Int)) = (↑(digits u.toNat).length : Int) ∧ True))))))))))))))))))))) := by kernel_rfl

theorem tab0_is : ∀ j, j < 256 → (j = 0 ∧ (tab0.getD j 0).toNat = 0) ∨ (1 ≤ (tab0.getD j 0).toNat ∧ (tab0.getD j 0).toNat ≤ 8 ∧ 2 ^ ((tab0.getD j 0).toNat - 1) ≤ j ∧ j < 2 ^ (tab0.getD j 0).toNat) := by decide +kernel
theorem wrapU8_is (n : Int) : 0 ≤ IntKind.u8.wrap n ∧ IntKind.u8.wrap n < 256 := by
  simp only [IntKind.wrap, IntKind.signed, IntKind.bits]
  simp
  omega
theorem len_leaf (n c y : Nat) (c' : Int) (hcc : c' = c) (hy : y = n / 2 ^ c) (h0 : c = 0 ∨ 0 < y) (h1 : y < 256) (hc : c ≤ 56) : IntKind.i64.wrap (c' + IntKind.i64.wrap (((tab0.getD (IntKind.u8.wrap (y : Int)).toNat 0).toNat : Nat) : Int)) = len64 n := by
  subst hcc
  rw [wrapU8 (by omega) (by omega), Int.toNat_natCast]
  rcases tab0_is y h1 with ⟨h2, h3⟩ | ⟨h2, h3, h4, h5⟩
  · have hc0 : c = 0 := h0.resolve_right (by omega)
    subst hc0
    have hn : n = 0 := by simp at hy; omega
    rw [h3, hn]
    rfl
  · generalize (tab0.getD y 0).toNat = l at h2 h3 h4 h5
    have hn : n ≠ 0 := by
      rintro rfl
      rw [Nat.zero_div] at hy
      have : 0 < 2 ^ (l - 1) := Nat.two_pow_pos _
      omega
    have e1 : 2 ^ (c + l - 1) ≤ n := by
      have : 2 ^ (l - 1) * 2 ^ c ≤ n := (Nat.le_div_iff_mul_le (Nat.two_pow_pos c)).1 (hy ▸ h4)
      rw [← Nat.pow_add] at this
      rw [show c + l - 1 = l - 1 + c by omega]
      exact this
    have e2 : n < 2 ^ (c + l - 1 + 1) := by
      have : n < 2 ^ l * 2 ^ c := (Nat.div_lt_iff_lt_mul (Nat.two_pow_pos c)).1 (hy ▸ h5)
      rw [← Nat.pow_add] at this
      rw [show c + l - 1 + 1 = l + c by omega]
      exact this
    have e3 : n.log2 = c + l - 1 := (Nat.log2_eq_iff hn).2 ⟨e1, e2⟩
    rw [wrap64 (n := (l : Int)) (by omega) (by omega), wrap64 (by omega) (by omega)]
    unfold len64
    rw [if_neg (by omega), Int.toNat_natCast, e3]
    omega
theorem fd32 (m : Nat) : (m : Int).fdiv 4294967296 = ((m / 4294967296 : Nat) : Int) := by
  rw [Int.fdiv_eq_ediv_of_nonneg _ (by decide)]
  omega
theorem fd16 (m : Nat) : (m : Int).fdiv 65536 = ((m / 65536 : Nat) : Int) := by
  rw [Int.fdiv_eq_ediv_of_nonneg _ (by decide)]
  omega
theorem fd8 (m : Nat) : (m : Int).fdiv 256 = ((m / 256 : Nat) : Int) := by
  rw [Int.fdiv_eq_ediv_of_nonneg _ (by decide)]
  omega
theorem len_ok (x : Int) (h0 : 0 ≤ x) (hx : x < 18446744073709551616) : Go.Sy.Tree.holds (entryX F (fun _ => none) 200 Tryd.f52 b52 ⟨[], .i .i64 (len64 x), []⟩ [.i .u64 x]) := by
  rw [len_e]
  obtain ⟨n, rfl⟩ : ∃ n : Nat, x = n := ⟨x.toNat, by omega⟩
  simp only [fd32, fd16, fd8, decide_eq_true_eq, decide_eq_false_iff_not]
  exact ⟨fun h1 => ⟨by decide, ⟨fun h2 => ⟨by decide, ⟨fun h3 => ⟨by decide, wrapU8_is _, len_leaf n 56 _ _ rfl (by omega) (by omega) (by omega) (by omega), trivial⟩, fun h3 => ⟨wrapU8_is _, len_leaf n 48 _ _ rfl (by omega) (by omega) (by omega) (by omega), trivial⟩⟩⟩,
      fun h2 => ⟨fun h3 => ⟨by decide, wrapU8_is _, len_leaf n 40 _ _ rfl (by omega) (by omega) (by omega) (by omega), trivial⟩, fun h3 => ⟨wrapU8_is _, len_leaf n 32 _ _ rfl (by omega) (by omega) (by omega) (by omega), trivial⟩⟩⟩⟩,
    fun h1 => ⟨fun h2 => ⟨by decide, ⟨fun h3 => ⟨by decide, wrapU8_is _, len_leaf n 24 _ _ rfl (by omega) (by omega) (by omega) (by omega), trivial⟩, fun h3 => ⟨wrapU8_is _, len_leaf n 16 _ _ rfl (by omega) (by omega) (by omega) (by omega), trivial⟩⟩⟩,
      fun h2 => ⟨fun h3 => ⟨by decide, wrapU8_is _, len_leaf n 8 _ _ rfl (by omega) (by omega) (by omega) (by omega), trivial⟩, fun h3 => ⟨wrapU8_is _, len_leaf n 0 _ _ rfl (by omega) (by omega) (by omega) (by omega), trivial⟩⟩⟩⟩
set_option maxRecDepth 10000 in
theorem lenOk : CtrOk1 F.S 52 (mkCtr lenD) :=
  mkCtr_ok (fn := Tryd.f52) (body := b52) (ctr := fun _ => none) codOk noExt hookLow (fun f c h => by cases h) Tryd.func52 rfl rfl rfl lenD 200 (fun _ => []) (show 1 ≤ 25 by decide) (show 25 ≤ 512 by decide) (by kernel_rfl) (fun _ _ => ⟨rfl, rfl⟩)
    (fun x hp => len_ok x.1 hp.1 hp.2) (fun x hp p hm => by cases hm)
theorem digits_count : ∀ (k u : Nat), 10 ^ k ≤ u → u < 10 ^ (k + 1) → (digits u).length = k + 1
  | 0, u, h1, h2 => by
    have h3 : 0 < u := by simp at h1; omega
    rw [digits_step h3, List.length_append, show u / 10 = 0 by simp at h2; omega, digits_zero]
    rfl
  | k + 1, u, h1, h2 => by
    have h3 : 0 < u := Nat.lt_of_lt_of_le (Nat.pow_pos (by decide)) h1
    rw [digits_step h3, List.length_append, digits_count k (u / 10) (by rw [Nat.pow_succ] at h1; omega) (by rw [Nat.pow_succ] at h2; omega)]
    rfl
theorem pow_tab : ∀ l, l < 65 → 1 ≤ l → l * 78913 / 262144 < 20 ∧ 2 ^ l ≤ 10 ^ (l * 78913 / 262144 + 1) ∧ 10 ^ (l * 78913 / 262144) ≤ 10 * 2 ^ (l - 1) := by decide +kernel
theorem nd_ok (u : Int) (h0 : 0 < u) (hu : u < 18446744073709551616) : Go.Sy.Tree.holds (entryX F (lookC m0) 200 Tryd.f48 b48 ⟨[], .i .i64 ((digits u.toNat).length : Int), []⟩ [.i .u64 u]) := by
  rw [nd_e]
  obtain ⟨n, rfl⟩ : ∃ n : Nat, u = n := ⟨u.toNat, by omega⟩
  have hn : n ≠ 0 := by omega
  have hl : n.log2 < 64 := (Nat.log2_lt hn).2 (by omega)
  obtain ⟨t1, t2, t3⟩ := pow_tab (n.log2 + 1) (by omega) (by omega)
  have b1 : 2 ^ n.log2 ≤ n := Nat.log2_self_le hn
  have b2 : n < 2 ^ (n.log2 + 1) := Nat.lt_log2_self
  have e : (IntKind.i64.wrap (len64 (n : Int) * (78913 : Int))).fdiv (262144 : Int) = (((n.log2 + 1) * 78913 / 262144 : Nat) : Int) := by
    have e1 : len64 (n : Int) = ((n.log2 + 1 : Nat) : Int) := by
      unfold len64
      rw [if_neg (by omega), Int.toNat_natCast]
      omega
    rw [e1, wrap64 (by omega) (by omega), Int.fdiv_eq_ediv_of_nonneg _ (by decide)]
    omega
  rw [e, Int.toNat_natCast]
  generalize (n.log2 + 1) * 78913 / 262144 = t at t1 t2 t3
  simp only [Nat.add_sub_cancel] at t3
  have body : ∀ (j : Nat) (p : Int), p = ((10 ^ j : Nat) : Int) → t = j → (decide ((n : Int) ≥ p) = true → IntKind.i64.wrap ((t : Int) + (1 : Int)) = (↑(digits n).length : Int) ∧ True) ∧ (decide ((n : Int) ≥ p) = false → IntKind.i64.wrap ((t : Int) + (0 : Int)) = (↑(digits n).length : Int) ∧ True) := by
    rintro j p rfl rfl
    refine ⟨fun h => ⟨?_, trivial⟩, fun h => ⟨?_, trivial⟩⟩
    · simp only [ge_iff_le, decide_eq_true_eq] at h
      rw [wrap64 (by omega) (by omega), digits_count t n (by omega) (by omega)]
      omega
    · simp only [ge_iff_le, decide_eq_false_iff_not] at h
      rw [wrap64 (by omega) (by omega)]
      cases t with
      | zero => simp at h; omega
      | succ t =>
        rw [digits_count t n (by rw [Nat.pow_succ] at t3; omega) (by omega)]
        omega
  have L : ∀ (j : Nat) (jz p : Int), jz = (j : Int) → p = ((10 ^ j : Nat) : Int) → ((t : Int) == jz) = true → (decide ((n : Int) ≥ p) = true → IntKind.i64.wrap ((t : Int) + (1 : Int)) = (↑(digits n).length : Int) ∧ True) ∧ (decide ((n : Int) ≥ p) = false → IntKind.i64.wrap ((t : Int) + (0 : Int)) = (↑(digits n).length : Int) ∧ True) := by
    rintro j jz p rfl hp h
    exact body j p hp (by simp only [beq_iff_eq] at h; omega)
  have hm : ∀ (jz : Int), ((t : Int) == jz) = false → (t : Int) ≠ jz := fun jz h => by simpa using h
  refine ⟨⟨by omega, hu⟩, by decide, ⟨by omega, by omega⟩, ?_⟩
  exact ⟨L 19 _ _ rfl (by decide), fun g19 => ⟨L 18 _ _ rfl (by decide), fun g18 => ⟨L 17 _ _ rfl (by decide), fun g17 => ⟨L 16 _ _ rfl (by decide), fun g16 => ⟨L 15 _ _ rfl (by decide), fun g15 => ⟨L 14 _ _ rfl (by decide), fun g14 => ⟨L 13 _ _ rfl (by decide), fun g13 => ⟨L 12 _ _ rfl (by decide), fun g12 => ⟨L 11 _ _ rfl (by decide), fun g11 => ⟨L 10 _ _ rfl (by decide), fun g10 => ⟨L 9 _ _ rfl (by decide), fun g9 => ⟨L 8 _ _ rfl (by decide), fun g8 => ⟨L 7 _ _ rfl (by decide), fun g7 => ⟨L 6 _ _ rfl (by decide), fun g6 => ⟨L 5 _ _ rfl (by decide), fun g5 => ⟨L 4 _ _ rfl (by decide), fun g4 => ⟨L 3 _ _ rfl (by decide), fun g3 => ⟨L 2 _ _ rfl (by decide), fun g2 => ⟨L 1 _ _ rfl (by decide), fun g1 => body 0 _ (by decide) (by have := hm _ g19 ; have := hm _ g18 ; have := hm _ g17 ; have := hm _ g16 ; have := hm _ g15 ; have := hm _ g14 ; have := hm _ g13 ; have := hm _ g12 ; have := hm _ g11 ; have := hm _ g10 ; have := hm _ g9 ; have := hm _ g8 ; have := hm _ g7 ; have := hm _ g6 ; have := hm _ g5 ; have := hm _ g4 ; have := hm _ g3 ; have := hm _ g2 ; have := hm _ g1 ; omega)⟩⟩⟩⟩⟩⟩⟩⟩⟩⟩⟩⟩⟩⟩⟩⟩⟩⟩⟩
set_option maxRecDepth 10000 in
theorem ndOk : CtrOk1 F.S 48 (mkCtr ndD) :=
  mkCtr_ok (fn := Tryd.f48) (body := b48) (ctr := lookC m0) codOk noExt hookLow (lookC_ok fun p h => by
    simp only [m0, List.mem_cons, List.not_mem_nil, or_false] at h
    subst h
    exact lenOk) Tryd.func48 rfl rfl rfl ndD 200 (fun _ => []) (show 1 ≤ 15 by decide) (show 15 ≤ 512 by decide) (by kernel_rfl) (fun _ _ => ⟨rfl, rfl⟩)
    (fun x hp => nd_ok x.1 hp.1 hp.2) (fun x hp p hm => by cases hm)
end Go.Proofs.YtomlcdalhihnaaaDoor

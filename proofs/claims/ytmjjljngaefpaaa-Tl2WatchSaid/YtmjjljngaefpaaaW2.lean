/- Tl2Watch: a turn, from each of its states. -/
import Derived.Test.YtmjjljngaefpaaaWf
namespace Go.Proofs.Ytmjjljngaefpaaa
open Go.RowKit Go.Am Go.Sy
set_option linter.unusedVariables false
set_option linter.unusedSimpArgs false
variable (p : List Op) (n i : Nat) (rd rs ws : List Wo) (xi : Nat) (a c bk value steps asked : Int) (W rows : List Int)
theorem tu_A : Go.Sy.Tree.holds (vcD p (dA p) ⟨n, i, rd, rs, ws, xi, a, c, bk, value, steps, asked, W, rows⟩) = ( (∀ (y : (ny0 p ((dA p).heap (US.mk n i rd rs ws xi a c bk value steps asked W rows)) (↑i : Int)).St), (ny0
 p ((dA p).heap (US.mk n i rd rs ws xi a c bk value steps asked W rows)) (↑i : Int)).I y → (((↑y.i : Int) == 0) = true → ∃ (s : (ny0 p ((dA p).heap (US.mk n i rd rs ws xi a c bk value steps asked W rows)) (↑i : Int)).St),
 p = p ∧ y.rs = s.rs ∧ wV (↑n : Int) 0 0 0 0 0 = wV (↑n : Int) 0 0 0 0 0 ∧ wat = wat ∧ Z39 (y.steps = s.steps ∧ Q 32 ∧ y.ws = s.ws ∧ filtT y.ws = filtT s.ws ∧ y.asked = s.asked ∧ Z40 (y.c = s.c ∧ Z75 (y.value = s.value ∧
 Z5 ((↑y.i : Int) = (↑s.i : Int) ∧ Qb false ∧ constA (Value.int IntKind.i64 (2 : Int)) = AVal.int IntKind.i64 0 ∧ y.rd = s.rd ∧ (ny0 p ((dA p).heap (US.mk n i rd rs ws xi a c bk value steps asked W rows)) (↑i : Int)).I s
 ∧ (ny0 p ((dA p).heap (US.mk n i rd rs ws xi a c bk value steps asked W rows)) (↑i : Int)).m s < (ny0 p ((dA p).heap (US.mk n i rd rs ws xi a c bk value steps asked W rows)) (↑i : Int)).m y ∧ True))))) ∧ (((↑y.i : Int)
 == 0) = false → (decide ((↑y.i : Int) > (↑p.length : Int)) = true → ∃ (s : (ny2 p ((dA p).heap (US.mk n i rd rs ws xi a c bk value steps asked W rows))).St), p = p ∧ y.rs = s.rs ∧ wV (↑n : Int) 0 0 0 0 0 = wV (↑n : Int)
 0 0 0 0 0 ∧ wat = wat ∧ Z39 (y.steps = s.steps ∧ Q 32 ∧ y.ws = s.ws ∧ filtT y.ws = filtT s.ws ∧ y.asked = s.asked ∧ Z40 (y.c = s.c ∧ Z76 (y.value = s.value ∧ Z5 ((↑y.i : Int) = (↑s.i : Int) ∧ Z16 (y.rd = s.rd ∧ (ny2 p
 ((dA p).heap (US.mk n i rd rs ws xi a c bk value steps asked W rows))).I s ∧ (ny2 p ((dA p).heap (US.mk n i rd rs ws xi a c bk value steps asked W rows))).m s < (ny0 p ((dA p).heap (US.mk n i rd rs ws xi a c bk value
 steps asked W rows)) (↑i : Int)).m y ∧ True)))))) ∧ (decide ((↑y.i : Int) > (↑p.length : Int)) = false → Bi y.i p ∧ Bi y.i p ∧ (((at2 p (IntKind.i64.wrap ((↑y.i : Int) - 1))).kd == 0) = true → Bi y.i p ∧ Bi y.i p ∧
 dataD.pre (mp1, (at2 p (IntKind.i64.wrap ((↑y.i : Int) - 1))).pl, ()) ∧ (decide ((26 : Int) + 2 * (at2 p (IntKind.i64.wrap ((↑y.i : Int) - 1))).pl < 0) = true → hashD.pre (mp1, (26 : Int) + 2 * (at2 p (IntKind.i64.wrap
 ((↑y.i : Int) - 1))).pl, ()) ∧ (decide (hashT ((26 : Int) + 2 * (at2 p (IntKind.i64.wrap ((↑y.i : Int) - 1))).pl) < 0) = true → ∃ (s : (ny0 p ((dA p).heap (US.mk n i rd rs ws xi a c bk value steps asked W rows)) (↑i :
 Int)).St), p = p ∧ y.rs = s.rs ∧ wV (↑n : Int) 0 0 0 0 0 = wV (↑n : Int) 0 0 0 0 0 ∧ wat = wat ∧ Z39 (y.steps = s.steps ∧ Q 32 ∧ y.ws = s.ws ∧ filtT y.ws = filtT s.ws ∧ y.asked = s.asked ∧ Z40 (y.c = s.c ∧ Q 1000 ∧
 constA (Value.int IntKind.i64 (3 : Int)) = AVal.int IntKind.i64 1 ∧ Qc 0 ∧ y.value = s.value ∧ Z44 ((↑y.i : Int) = (↑s.i : Int) ∧ Qb false ∧ constA (Value.int IntKind.i64 (2 : Int)) = AVal.int IntKind.i64 0 ∧ y.rd = s.rd
 ∧ (ny0 p ((dA p).heap (US.mk n i rd rs ws xi a c bk value steps asked W rows)) (↑i : Int)).I s ∧ (ny0 p ((dA p).heap (US.mk n i rd rs ws xi a c bk value steps asked W rows)) (↑i : Int)).m s < (ny0 p ((dA p).heap (US.mk n
 i rd rs ws xi a c bk value steps asked W rows)) (↑i : Int)).m y ∧ True)))) ∧ (decide (hashT ((26 : Int) + 2 * (at2 p (IntKind.i64.wrap ((↑y.i : Int) - 1))).pl) < 0) = false → roomD.pre (Rs.mk (32 : Int) y.rs, hashT ((26
 : Int) + 2 * (at2 p (IntKind.i64.wrap ((↑y.i : Int) - 1))).pl), ()) ∧ ∃ (s : (ny1 p ((dA p).heap (US.mk n i rd rs ws xi a c bk value steps asked W rows)) (↑i : Int)).St), p = p ∧ y.rs = s.rs ∧ wV (↑n : Int) 0 0 0 0 0 =
 wV (↑n : Int) 0 0 0 0 0 ∧ wat = wat ∧ Z39 (y.steps = s.steps ∧ Q 32 ∧ y.ws = s.ws ∧ filtT y.ws = filtT s.ws ∧ y.asked = s.asked ∧ Z40 (y.c = s.c ∧ Z77 ((26 : Int) + 2 * (at2 p (IntKind.i64.wrap ((↑y.i : Int) - 1))).pl =
 s.a ∧ hashT ((26 : Int) + 2 * (at2 p (IntKind.i64.wrap ((↑y.i : Int) - 1))).pl) = hashT s.a ∧ y.value = s.value ∧ Z5 ((↑y.i : Int) = (↑s.i : Int) ∧ Z16 (y.rd = s.rd ∧ (ny1 p ((dA p).heap (US.mk n i rd rs ws xi a c bk
 value steps asked W rows)) (↑i : Int)).I s ∧ (ny1 p ((dA p).heap (US.mk n i rd rs ws xi a c bk value steps asked W rows)) (↑i : Int)).m s < (ny0 p ((dA p).heap (US.mk n i rd rs ws xi a c bk value steps asked W rows)) (↑i
 : Int)).m y ∧ True))))))) ∧ (decide ((26 : Int) + 2 * (at2 p (IntKind.i64.wrap ((↑y.i : Int) - 1))).pl < 0) = false → bitD.pre ((26 : Int) + 2 * (at2 p (IntKind.i64.wrap ((↑y.i : Int) - 1))).pl, ()) ∧ ((IntKind.u64.wrap
 (↑(BitVec.ofInt IntKind.u64.bits (filtT y.ws) &&& BitVec.ofInt IntKind.u64.bits (bitT ((26 : Int) + 2 * (at2 p (IntKind.i64.wrap ((↑y.i : Int) - 1))).pl))).toNat : Int) == 0) = true → hashD.pre (mp1, (26 : Int) + 2 *
 (at2 p (IntKind.i64.wrap ((↑y.i : Int) - 1))).pl, ()) ∧ (decide (hashT ((26 : Int) + 2 * (at2 p (IntKind.i64.wrap ((↑y.i : Int) - 1))).pl) < 0) = true → ∃ (s : (ny0 p ((dA p).heap (US.mk n i rd rs ws xi a c bk value
 steps asked W rows)) (↑i : Int)).St), p = p ∧ y.rs = s.rs ∧ wV (↑n : Int) 0 0 0 0 0 = wV (↑n : Int) 0 0 0 0 0 ∧ wat = wat ∧ Z39 (y.steps = s.steps ∧ Q 32 ∧ y.ws = s.ws ∧ filtT y.ws = filtT s.ws ∧ y.asked = s.asked ∧ Z40
 (y.c = s.c ∧ Q 1000 ∧ constA (Value.int IntKind.i64 (3 : Int)) = AVal.int IntKind.i64 1 ∧ Qc 0 ∧ y.value = s.value ∧ Z44 ((↑y.i : Int) = (↑s.i : Int) ∧ Qb false ∧ constA (Value.int IntKind.i64 (2 : Int)) = AVal.int
 IntKind.i64 0 ∧ y.rd = s.rd ∧ (ny0 p ((dA p).heap (US.mk n i rd rs ws xi a c bk value steps asked W rows)) (↑i : Int)).I s ∧ (ny0 p ((dA p).heap (US.mk n i rd rs ws xi a c bk value steps asked W rows)) (↑i : Int)).m s <
 (ny0 p ((dA p).heap (US.mk n i rd rs ws xi a c bk value steps asked W rows)) (↑i : Int)).m y ∧ True)))) ∧ (decide (hashT ((26 : Int) + 2 * (at2 p (IntKind.i64.wrap ((↑y.i : Int) - 1))).pl) < 0) = false → roomD.pre (Rs.mk
 (32 : Int) y.rs, hashT ((26 : Int) + 2 * (at2 p (IntKind.i64.wrap ((↑y.i : Int) - 1))).pl), ()) ∧ ∃ (s : (ny1 p ((dA p).heap (US.mk n i rd rs ws xi a c bk value steps asked W rows)) (↑i : Int)).St), p = p ∧ y.rs = s.rs ∧
 wV (↑n : Int) 0 0 0 0 0 = wV (↑n : Int) 0 0 0 0 0 ∧ wat = wat ∧ Z39 (y.steps = s.steps ∧ Q 32 ∧ y.ws = s.ws ∧ filtT y.ws = filtT s.ws ∧ y.asked = s.asked ∧ Z40 (y.c = s.c ∧ Z77 ((26 : Int) + 2 * (at2 p (IntKind.i64.wrap
 ((↑y.i : Int) - 1))).pl = s.a ∧ hashT ((26 : Int) + 2 * (at2 p (IntKind.i64.wrap ((↑y.i : Int) - 1))).pl) = hashT s.a ∧ y.value = s.value ∧ Z5 ((↑y.i : Int) = (↑s.i : Int) ∧ Z16 (y.rd = s.rd ∧ (ny1 p ((dA p).heap (US.mk
 n i rd rs ws xi a c bk value steps asked W rows)) (↑i : Int)).I s ∧ (ny1 p ((dA p).heap (US.mk n i rd rs ws xi a c bk value steps asked W rows)) (↑i : Int)).m s < (ny0 p ((dA p).heap (US.mk n i rd rs ws xi a c bk value
 steps asked W rows)) (↑i : Int)).m y ∧ True))))))) ∧ ((IntKind.u64.wrap (↑(BitVec.ofInt IntKind.u64.bits (filtT y.ws) &&& BitVec.ofInt IntKind.u64.bits (bitT ((26 : Int) + 2 * (at2 p (IntKind.i64.wrap ((↑y.i : Int) -
 1))).pl))).toNat : Int) == 0) = false → findD.pre (Wr.mk (32 : Int) y.ws (filtT y.ws), (26 : Int) + 2 * (at2 p (IntKind.i64.wrap ((↑y.i : Int) - 1))).pl, ()) ∧ (decide (findT (Wr.mk (32 : Int) y.ws (filtT y.ws)).ls ((26
 : Int) + 2 * (at2 p (IntKind.i64.wrap ((↑y.i : Int) - 1))).pl) ≥ (0 : Int)) = true → ((0 : Int) ≤ findT (Wr.mk (32 : Int) y.ws (filtT y.ws)).ls ((26 : Int) + 2 * (at2 p (IntKind.i64.wrap ((↑y.i : Int) - 1))).pl) ∧ findT
 (Wr.mk (32 : Int) y.ws (filtT y.ws)).ls ((26 : Int) + 2 * (at2 p (IntKind.i64.wrap ((↑y.i : Int) - 1))).pl) < (↑y.ws.length : Int)) ∧ ((0 : Int) ≤ findT (Wr.mk (32 : Int) y.ws (filtT y.ws)).ls ((26 : Int) + 2 * (at2 p
 (IntKind.i64.wrap ((↑y.i : Int) - 1))).pl) ∧ findT (Wr.mk (32 : Int) y.ws (filtT y.ws)).ls ((26 : Int) + 2 * (at2 p (IntKind.i64.wrap ((↑y.i : Int) - 1))).pl) < (↑y.ws.length : Int)) ∧ (decide ((↑y.i : Int) > (↑p.length
 : Int)) = true → ∃ (s : (ny0 p ((dA p).heap (US.mk n i rd rs ws xi a c bk value steps asked W rows)) (↑i : Int)).St), p = p ∧ y.rs = s.rs ∧ wV (↑n : Int) 0 0 0 0 0 = wV (↑n : Int) 0 0 0 0 0 ∧ wat = wat ∧ Z39 (y.steps =
 s.steps ∧ Q 32 ∧ y.ws = s.ws ∧ filtT y.ws = filtT s.ws ∧ IntKind.i64.wrap (y.asked + 1) = s.asked ∧ Z40 (y.c = s.c ∧ Z75 ((at3 y.ws (findT (Wr.mk (32 : Int) y.ws (filtT y.ws)).ls ((26 : Int) + 2 * (at2 p
 (IntKind.i64.wrap ((↑y.i : Int) - 1))).pl))).vl = s.value ∧ Z5 ((↑y.i : Int) = (↑s.i : Int) ∧ constA (Value.bool false) = AVal.bool false ∧ constA (Value.int IntKind.i64 (1 : Int)) = AVal.int IntKind.i64 0 ∧ y.rd = s.rd
 ∧ (ny0 p ((dA p).heap (US.mk n i rd rs ws xi a c bk value steps asked W rows)) (↑i : Int)).I s ∧ (ny0 p ((dA p).heap (US.mk n i rd rs ws xi a c bk value steps asked W rows)) (↑i : Int)).m s < (ny0 p ((dA p).heap (US.mk n
 i rd rs ws xi a c bk value steps asked W rows)) (↑i : Int)).m y ∧ True))))) ∧ (decide ((↑y.i : Int) > (↑p.length : Int)) = false → (decide ((↑y.i : Int) > 0) = true → Bi y.i p ∧ Bi y.i p ∧ (((at2 p (IntKind.i64.wrap
 ((↑y.i : Int) - 1))).kd == 0) = true → Bi y.i p ∧ Bi y.i p ∧ (y.rd.length + [Wo.mk (at2 p (IntKind.i64.wrap ((↑y.i : Int) - 1))).pl (at3 y.ws (findT (Wr.mk (32 : Int) y.ws (filtT y.ws)).ls ((26 : Int) + 2 * (at2 p
 (IntKind.i64.wrap ((↑y.i : Int) - 1))).pl))).vl].length) * 16 ≤ 140737488355328 ∧ ∃ (s : (ny0 p ((dA p).heap (US.mk n i rd rs ws xi a c bk value steps asked W rows)) (↑i : Int)).St), p = p ∧ y.rs = s.rs ∧ wV (↑n : Int) 0
 0 0 0 0 = wV (↑n : Int) 0 0 0 0 0 ∧ wat = wat ∧ Z39 (y.steps = s.steps ∧ Q 32 ∧ y.ws = s.ws ∧ filtT y.ws = filtT s.ws ∧ IntKind.i64.wrap (y.asked + 1) = s.asked ∧ Z40 (y.c = s.c ∧ Z75 ((at3 y.ws (findT (Wr.mk (32 : Int)
 y.ws (filtT y.ws)).ls ((26 : Int) + 2 * (at2 p (IntKind.i64.wrap ((↑y.i : Int) - 1))).pl))).vl = s.value ∧ Z5 (IntKind.i64.wrap ((↑y.i : Int) + 1) = (↑s.i : Int) ∧ constA (Value.bool false) = AVal.bool false ∧ Q 0 ∧ y.rd
 ++ [Wo.mk (at2 p (IntKind.i64.wrap ((↑y.i : Int) - 1))).pl (at3 y.ws (findT (Wr.mk (32 : Int) y.ws (filtT y.ws)).ls ((26 : Int) + 2 * (at2 p (IntKind.i64.wrap ((↑y.i : Int) - 1))).pl))).vl] = s.rd ∧ (ny0 p ((dA p).heap
 (US.mk n i rd rs ws xi a c bk value steps asked W rows)) (↑i : Int)).I s ∧ (ny0 p ((dA p).heap (US.mk n i rd rs ws xi a c bk value steps asked W rows)) (↑i : Int)).m s < (ny0 p ((dA p).heap (US.mk n i rd rs ws xi a c bk
 value steps asked W rows)) (↑i : Int)).m y ∧ True))))) ∧ (((at2 p (IntKind.i64.wrap ((↑y.i : Int) - 1))).kd == 0) = false → ∃ (s : (ny0 p ((dA p).heap (US.mk n i rd rs ws xi a c bk value steps asked W rows)) (↑i :
 Int)).St), p = p ∧ y.rs = s.rs ∧ wV (↑n : Int) 0 0 0 0 0 = wV (↑n : Int) 0 0 0 0 0 ∧ wat = wat ∧ Z39 (y.steps = s.steps ∧ Q 32 ∧ y.ws = s.ws ∧ filtT y.ws = filtT s.ws ∧ IntKind.i64.wrap (y.asked + 1) = s.asked ∧ Z40 (y.c
 = s.c ∧ Z75 ((at3 y.ws (findT (Wr.mk (32 : Int) y.ws (filtT y.ws)).ls ((26 : Int) + 2 * (at2 p (IntKind.i64.wrap ((↑y.i : Int) - 1))).pl))).vl = s.value ∧ Z5 (IntKind.i64.wrap ((↑y.i : Int) + 1) = (↑s.i : Int) ∧ constA
 (Value.bool false) = AVal.bool false ∧ Q 0 ∧ y.rd = s.rd ∧ (ny0 p ((dA p).heap (US.mk n i rd rs ws xi a c bk value steps asked W rows)) (↑i : Int)).I s ∧ (ny0 p ((dA p).heap (US.mk n i rd rs ws xi a c bk value steps
 asked W rows)) (↑i : Int)).m s < (ny0 p ((dA p).heap (US.mk n i rd rs ws xi a c bk value steps asked W rows)) (↑i : Int)).m y ∧ True)))))) ∧ (decide ((↑y.i : Int) > 0) = false → ∃ (s : (ny0 p ((dA p).heap (US.mk n i rd
 rs ws xi a c bk value steps asked W rows)) (↑i : Int)).St), p = p ∧ y.rs = s.rs ∧ wV (↑n : Int) 0 0 0 0 0 = wV (↑n : Int) 0 0 0 0 0 ∧ wat = wat ∧ Z39 (y.steps = s.steps ∧ Q 32 ∧ y.ws = s.ws ∧ filtT y.ws = filtT s.ws ∧
 IntKind.i64.wrap (y.asked + 1) = s.asked ∧ Z40 (y.c = s.c ∧ Z75 ((at3 y.ws (findT (Wr.mk (32 : Int) y.ws (filtT y.ws)).ls ((26 : Int) + 2 * (at2 p (IntKind.i64.wrap ((↑y.i : Int) - 1))).pl))).vl = s.value ∧ Z5
 (IntKind.i64.wrap ((↑y.i : Int) + 1) = (↑s.i : Int) ∧ constA (Value.bool false) = AVal.bool false ∧ Q 0 ∧ y.rd = s.rd ∧ (ny0 p ((dA p).heap (US.mk n i rd rs ws xi a c bk value steps asked W rows)) (↑i : Int)).I s ∧ (ny0
 p ((dA p).heap (US.mk n i rd rs ws xi a c bk value steps asked W rows)) (↑i : Int)).m s < (ny0 p ((dA p).heap (US.mk n i rd rs ws xi a c bk value steps asked W rows)) (↑i : Int)).m y ∧ True))))))) ∧ (decide (findT (Wr.mk
 (32 : Int) y.ws (filtT y.ws)).ls ((26 : Int) + 2 * (at2 p (IntKind.i64.wrap ((↑y.i : Int) - 1))).pl) ≥ (0 : Int)) = false → hashD.pre (mp1, (26 : Int) + 2 * (at2 p (IntKind.i64.wrap ((↑y.i : Int) - 1))).pl, ()) ∧ (decide
 (hashT ((26 : Int) + 2 * (at2 p (IntKind.i64.wrap ((↑y.i : Int) - 1))).pl) < 0) = true → ∃ (s : (ny0 p ((dA p).heap (US.mk n i rd rs ws xi a c bk value steps asked W rows)) (↑i : Int)).St), p = p ∧ y.rs = s.rs ∧ wV (↑n :
 Int) 0 0 0 0 0 = wV (↑n : Int) 0 0 0 0 0 ∧ wat = wat ∧ Z39 (y.steps = s.steps ∧ Q 32 ∧ y.ws = s.ws ∧ filtT y.ws = filtT s.ws ∧ IntKind.i64.wrap (y.asked + 1) = s.asked ∧ Z40 (y.c = s.c ∧ Q 1000 ∧ constA (Value.int
 IntKind.i64 (3 : Int)) = AVal.int IntKind.i64 1 ∧ Qc 0 ∧ y.value = s.value ∧ Z44 ((↑y.i : Int) = (↑s.i : Int) ∧ Qb false ∧ constA (Value.int IntKind.i64 (2 : Int)) = AVal.int IntKind.i64 0 ∧ y.rd = s.rd ∧ (ny0 p ((dA
 p).heap (US.mk n i rd rs ws xi a c bk value steps asked W rows)) (↑i : Int)).I s ∧ (ny0 p ((dA p).heap (US.mk n i rd rs ws xi a c bk value steps asked W rows)) (↑i : Int)).m s < (ny0 p ((dA p).heap (US.mk n i rd rs ws xi
 a c bk value steps asked W rows)) (↑i : Int)).m y ∧ True)))) ∧ (decide (hashT ((26 : Int) + 2 * (at2 p (IntKind.i64.wrap ((↑y.i : Int) - 1))).pl) < 0) = false → roomD.pre (Rs.mk (32 : Int) y.rs, hashT ((26 : Int) + 2 *
 (at2 p (IntKind.i64.wrap ((↑y.i : Int) - 1))).pl), ()) ∧ ∃ (s : (ny1 p ((dA p).heap (US.mk n i rd rs ws xi a c bk value steps asked W rows)) (↑i : Int)).St), p = p ∧ y.rs = s.rs ∧ wV (↑n : Int) 0 0 0 0 0 = wV (↑n : Int)
 0 0 0 0 0 ∧ wat = wat ∧ Z39 (y.steps = s.steps ∧ Q 32 ∧ y.ws = s.ws ∧ filtT y.ws = filtT s.ws ∧ IntKind.i64.wrap (y.asked + 1) = s.asked ∧ Z40 (y.c = s.c ∧ Z77 ((26 : Int) + 2 * (at2 p (IntKind.i64.wrap ((↑y.i : Int) -
 1))).pl = s.a ∧ hashT ((26 : Int) + 2 * (at2 p (IntKind.i64.wrap ((↑y.i : Int) - 1))).pl) = hashT s.a ∧ y.value = s.value ∧ Z5 ((↑y.i : Int) = (↑s.i : Int) ∧ Z16 (y.rd = s.rd ∧ (ny1 p ((dA p).heap (US.mk n i rd rs ws xi
 a c bk value steps asked W rows)) (↑i : Int)).I s ∧ (ny1 p ((dA p).heap (US.mk n i rd rs ws xi a c bk value steps asked W rows)) (↑i : Int)).m s < (ny0 p ((dA p).heap (US.mk n i rd rs ws xi a c bk value steps asked W
 rows)) (↑i : Int)).m y ∧ True)))))))))) ∧ (((at2 p (IntKind.i64.wrap ((↑y.i : Int) - 1))).kd == 0) = false → Bi y.i p ∧ Bi y.i p ∧ dataD.pre (mp1, (at2 p (IntKind.i64.wrap ((↑y.i : Int) - 1))).pl, ()) ∧ valueD.pre (Rl.mk
 y.rd, Op.mk (at2 p (IntKind.i64.wrap ((↑y.i : Int) - 1))).kd (at2 p (IntKind.i64.wrap ((↑y.i : Int) - 1))).pl (at2 p (IntKind.i64.wrap ((↑y.i : Int) - 1))).vl, ()) ∧ hashD.pre (mp1, (26 : Int) + 2 * (at2 p
 (IntKind.i64.wrap ((↑y.i : Int) - 1))).pl, ()) ∧ (decide (hashT ((26 : Int) + 2 * (at2 p (IntKind.i64.wrap ((↑y.i : Int) - 1))).pl) < 0) = true → ∃ (s : (ny0 p ((dA p).heap (US.mk n i rd rs ws xi a c bk value steps asked
 W rows)) (↑i : Int)).St), p = p ∧ y.rs = s.rs ∧ wV (↑n : Int) 0 0 0 0 0 = wV (↑n : Int) 0 0 0 0 0 ∧ wat = wat ∧ Z39 (y.steps = s.steps ∧ Q 32 ∧ y.ws = s.ws ∧ filtT y.ws = filtT s.ws ∧ y.asked = s.asked ∧ Z40 (y.c = s.c ∧
 Q 1000 ∧ constA (Value.int IntKind.i64 (3 : Int)) = AVal.int IntKind.i64 1 ∧ Qc 0 ∧ y.value = s.value ∧ Z44 ((↑y.i : Int) = (↑s.i : Int) ∧ Qb false ∧ constA (Value.int IntKind.i64 (2 : Int)) = AVal.int IntKind.i64 0 ∧
 y.rd = s.rd ∧ (ny0 p ((dA p).heap (US.mk n i rd rs ws xi a c bk value steps asked W rows)) (↑i : Int)).I s ∧ (ny0 p ((dA p).heap (US.mk n i rd rs ws xi a c bk value steps asked W rows)) (↑i : Int)).m s < (ny0 p ((dA
 p).heap (US.mk n i rd rs ws xi a c bk value steps asked W rows)) (↑i : Int)).m y ∧ True)))) ∧ (decide (hashT ((26 : Int) + 2 * (at2 p (IntKind.i64.wrap ((↑y.i : Int) - 1))).pl) < 0) = false → (decide ((26 : Int) + 2 *
 (at2 p (IntKind.i64.wrap ((↑y.i : Int) - 1))).pl < 0) = true → ∃ (s : (ny0 p ((dA p).heap (US.mk n i rd rs ws xi a c bk value steps asked W rows)) (↑i : Int)).St), p = p ∧ y.rs = s.rs ∧ wV (↑n : Int) 0 0 0 0 0 = wV (↑n :
 Int) 0 0 0 0 0 ∧ wat = wat ∧ Z39 (y.steps = s.steps ∧ Q 32 ∧ y.ws = s.ws ∧ filtT y.ws = filtT s.ws ∧ y.asked = s.asked ∧ Z40 (y.c = s.c ∧ Q 1000 ∧ constA (Value.int IntKind.i64 (3 : Int)) = AVal.int IntKind.i64 1 ∧ Qc 0
 ∧ y.value = s.value ∧ Z44 ((↑y.i : Int) = (↑s.i : Int) ∧ Qb false ∧ constA (Value.int IntKind.i64 (2 : Int)) = AVal.int IntKind.i64 0 ∧ y.rd = s.rd ∧ (ny0 p ((dA p).heap (US.mk n i rd rs ws xi a c bk value steps asked W
 rows)) (↑i : Int)).I s ∧ (ny0 p ((dA p).heap (US.mk n i rd rs ws xi a c bk value steps asked W rows)) (↑i : Int)).m s < (ny0 p ((dA p).heap (US.mk n i rd rs ws xi a c bk value steps asked W rows)) (↑i : Int)).m y ∧
 True)))) ∧ (decide ((26 : Int) + 2 * (at2 p (IntKind.i64.wrap ((↑y.i : Int) - 1))).pl < 0) = false → findD.pre (Wr.mk (32 : Int) y.ws (filtT y.ws), (26 : Int) + 2 * (at2 p (IntKind.i64.wrap ((↑y.i : Int) - 1))).pl, ()) ∧
 (decide (findT (Wr.mk (32 : Int) y.ws (filtT y.ws)).ls ((26 : Int) + 2 * (at2 p (IntKind.i64.wrap ((↑y.i : Int) - 1))).pl) ≥ (0 : Int)) = true → ((0 : Int) ≤ findT (Wr.mk (32 : Int) y.ws (filtT y.ws)).ls ((26 : Int) + 2
 * (at2 p (IntKind.i64.wrap ((↑y.i : Int) - 1))).pl) ∧ findT (Wr.mk (32 : Int) y.ws (filtT y.ws)).ls ((26 : Int) + 2 * (at2 p (IntKind.i64.wrap ((↑y.i : Int) - 1))).pl) < (↑y.ws.length : Int)) ∧ ((0 : Int) ≤ findT (Wr.mk
 (32 : Int) y.ws (filtT y.ws)).ls ((26 : Int) + 2 * (at2 p (IntKind.i64.wrap ((↑y.i : Int) - 1))).pl) ∧ findT (Wr.mk (32 : Int) y.ws (filtT y.ws)).ls ((26 : Int) + 2 * (at2 p (IntKind.i64.wrap ((↑y.i : Int) - 1))).pl) <
 (↑y.ws.length : Int)) ∧ (decide ((↑y.i : Int) > (↑p.length : Int)) = true → ∃ (s : (ny0 p ((dA p).heap (US.mk n i rd rs ws xi a c bk value steps asked W rows)) (↑i : Int)).St), p = p ∧ y.rs = s.rs ∧ wV (↑n : Int) 0 0 0 0
 0 = wV (↑n : Int) 0 0 0 0 0 ∧ wat = wat ∧ Z39 (y.steps = s.steps ∧ Q 32 ∧ y.ws.set (findT (Wr.mk (32 : Int) y.ws (filtT y.ws)).ls ((26 : Int) + 2 * (at2 p (IntKind.i64.wrap ((↑y.i : Int) - 1))).pl)).toNat (Wo.mk (at3
 y.ws (findT (Wr.mk (32 : Int) y.ws (filtT y.ws)).ls ((26 : Int) + 2 * (at2 p (IntKind.i64.wrap ((↑y.i : Int) - 1))).pl))).pl (valT (Rl.mk y.rd).ls (Op.mk (at2 p (IntKind.i64.wrap ((↑y.i : Int) - 1))).kd (at2 p
 (IntKind.i64.wrap ((↑y.i : Int) - 1))).pl (at2 p (IntKind.i64.wrap ((↑y.i : Int) - 1))).vl))) = s.ws ∧ filtT y.ws = filtT s.ws ∧ y.asked = s.asked ∧ Z40 (y.c = s.c ∧ Z75 (y.value = s.value ∧ Z5 ((↑y.i : Int) = (↑s.i :
 Int) ∧ constA (Value.bool false) = AVal.bool false ∧ constA (Value.int IntKind.i64 (1 : Int)) = AVal.int IntKind.i64 0 ∧ y.rd = s.rd ∧ (ny0 p ((dA p).heap (US.mk n i rd rs ws xi a c bk value steps asked W rows)) (↑i :
 Int)).I s ∧ (ny0 p ((dA p).heap (US.mk n i rd rs ws xi a c bk value steps asked W rows)) (↑i : Int)).m s < (ny0 p ((dA p).heap (US.mk n i rd rs ws xi a c bk value steps asked W rows)) (↑i : Int)).m y ∧ True))))) ∧
 (decide ((↑y.i : Int) > (↑p.length : Int)) = false → (decide ((↑y.i : Int) > 0) = true → Bi y.i p ∧ Bi y.i p ∧ (((at2 p (IntKind.i64.wrap ((↑y.i : Int) - 1))).kd == 0) = true → Bi y.i p ∧ Bi y.i p ∧ (y.rd.length + [Wo.mk
 (at2 p (IntKind.i64.wrap ((↑y.i : Int) - 1))).pl y.value].length) * 16 ≤ 140737488355328 ∧ ∃ (s : (ny0 p ((dA p).heap (US.mk n i rd rs ws xi a c bk value steps asked W rows)) (↑i : Int)).St), p = p ∧ y.rs = s.rs ∧ wV (↑n
 : Int) 0 0 0 0 0 = wV (↑n : Int) 0 0 0 0 0 ∧ wat = wat ∧ Z39 (y.steps = s.steps ∧ Q 32 ∧ y.ws.set (findT (Wr.mk (32 : Int) y.ws (filtT y.ws)).ls ((26 : Int) + 2 * (at2 p (IntKind.i64.wrap ((↑y.i : Int) - 1))).pl)).toNat
 (Wo.mk (at3 y.ws (findT (Wr.mk (32 : Int) y.ws (filtT y.ws)).ls ((26 : Int) + 2 * (at2 p (IntKind.i64.wrap ((↑y.i : Int) - 1))).pl))).pl (valT (Rl.mk y.rd).ls (Op.mk (at2 p (IntKind.i64.wrap ((↑y.i : Int) - 1))).kd (at2
 p (IntKind.i64.wrap ((↑y.i : Int) - 1))).pl (at2 p (IntKind.i64.wrap ((↑y.i : Int) - 1))).vl))) = s.ws ∧ filtT y.ws = filtT s.ws ∧ y.asked = s.asked ∧ Z40 (y.c = s.c ∧ Z75 (y.value = s.value ∧ Z5 (IntKind.i64.wrap ((↑y.i
 : Int) + 1) = (↑s.i : Int) ∧ constA (Value.bool false) = AVal.bool false ∧ Q 0 ∧ y.rd ++ [Wo.mk (at2 p (IntKind.i64.wrap ((↑y.i : Int) - 1))).pl y.value] = s.rd ∧ (ny0 p ((dA p).heap (US.mk n i rd rs ws xi a c bk value
 steps asked W rows)) (↑i : Int)).I s ∧ (ny0 p ((dA p).heap (US.mk n i rd rs ws xi a c bk value steps asked W rows)) (↑i : Int)).m s < (ny0 p ((dA p).heap (US.mk n i rd rs ws xi a c bk value steps asked W rows)) (↑i :
 Int)).m y ∧ True))))) ∧ (((at2 p (IntKind.i64.wrap ((↑y.i : Int) - 1))).kd == 0) = false → ∃ (s : (ny0 p ((dA p).heap (US.mk n i rd rs ws xi a c bk value steps asked W rows)) (↑i : Int)).St), p = p ∧ y.rs = s.rs ∧ wV (↑n
 : Int) 0 0 0 0 0 = wV (↑n : Int) 0 0 0 0 0 ∧ wat = wat ∧ Z39 (y.steps = s.steps ∧ Q 32 ∧ y.ws.set (findT (Wr.mk (32 : Int) y.ws (filtT y.ws)).ls ((26 : Int) + 2 * (at2 p (IntKind.i64.wrap ((↑y.i : Int) - 1))).pl)).toNat
 (Wo.mk (at3 y.ws (findT (Wr.mk (32 : Int) y.ws (filtT y.ws)).ls ((26 : Int) + 2 * (at2 p (IntKind.i64.wrap ((↑y.i : Int) - 1))).pl))).pl (valT (Rl.mk y.rd).ls (Op.mk (at2 p (IntKind.i64.wrap ((↑y.i : Int) - 1))).kd (at2
 p (IntKind.i64.wrap ((↑y.i : Int) - 1))).pl (at2 p (IntKind.i64.wrap ((↑y.i : Int) - 1))).vl))) = s.ws ∧ filtT y.ws = filtT s.ws ∧ y.asked = s.asked ∧ Z40 (y.c = s.c ∧ Z75 (y.value = s.value ∧ Z5 (IntKind.i64.wrap ((↑y.i
 : Int) + 1) = (↑s.i : Int) ∧ constA (Value.bool false) = AVal.bool false ∧ Q 0 ∧ y.rd = s.rd ∧ (ny0 p ((dA p).heap (US.mk n i rd rs ws xi a c bk value steps asked W rows)) (↑i : Int)).I s ∧ (ny0 p ((dA p).heap (US.mk n i
 rd rs ws xi a c bk value steps asked W rows)) (↑i : Int)).m s < (ny0 p ((dA p).heap (US.mk n i rd rs ws xi a c bk value steps asked W rows)) (↑i : Int)).m y ∧ True)))))) ∧ (decide ((↑y.i : Int) > 0) = false → ∃ (s : (ny0
 p ((dA p).heap (US.mk n i rd rs ws xi a c bk value steps asked W rows)) (↑i : Int)).St), p = p ∧ y.rs = s.rs ∧ wV (↑n : Int) 0 0 0 0 0 = wV (↑n : Int) 0 0 0 0 0 ∧ wat = wat ∧ Z39 (y.steps = s.steps ∧ Q 32 ∧ y.ws.set
 (findT (Wr.mk (32 : Int) y.ws (filtT y.ws)).ls ((26 : Int) + 2 * (at2 p (IntKind.i64.wrap ((↑y.i : Int) - 1))).pl)).toNat (Wo.mk (at3 y.ws (findT (Wr.mk (32 : Int) y.ws (filtT y.ws)).ls ((26 : Int) + 2 * (at2 p
 (IntKind.i64.wrap ((↑y.i : Int) - 1))).pl))).pl (valT (Rl.mk y.rd).ls (Op.mk (at2 p (IntKind.i64.wrap ((↑y.i : Int) - 1))).kd (at2 p (IntKind.i64.wrap ((↑y.i : Int) - 1))).pl (at2 p (IntKind.i64.wrap ((↑y.i : Int) -
 1))).vl))) = s.ws ∧ filtT y.ws = filtT s.ws ∧ y.asked = s.asked ∧ Z40 (y.c = s.c ∧ Z75 (y.value = s.value ∧ Z5 (IntKind.i64.wrap ((↑y.i : Int) + 1) = (↑s.i : Int) ∧ constA (Value.bool false) = AVal.bool false ∧ Q 0 ∧
 y.rd = s.rd ∧ (ny0 p ((dA p).heap (US.mk n i rd rs ws xi a c bk value steps asked W rows)) (↑i : Int)).I s ∧ (ny0 p ((dA p).heap (US.mk n i rd rs ws xi a c bk value steps asked W rows)) (↑i : Int)).m s < (ny0 p ((dA
 p).heap (US.mk n i rd rs ws xi a c bk value steps asked W rows)) (↑i : Int)).m y ∧ True))))))) ∧ (decide (findT (Wr.mk (32 : Int) y.ws (filtT y.ws)).ls ((26 : Int) + 2 * (at2 p (IntKind.i64.wrap ((↑y.i : Int) - 1))).pl)
 ≥ (0 : Int)) = false → (decide ((↑y.ws.length : Int) ≥ (32 : Int)) = true → ∃ (s : (ny0 p ((dA p).heap (US.mk n i rd rs ws xi a c bk value steps asked W rows)) (↑i : Int)).St), p = p ∧ y.rs = s.rs ∧ wV (↑n : Int) 0 0 0 0
 0 = wV (↑n : Int) 0 0 0 0 0 ∧ wat = wat ∧ Z39 (y.steps = s.steps ∧ Q 32 ∧ y.ws = s.ws ∧ filtT y.ws = filtT s.ws ∧ y.asked = s.asked ∧ Z40 (y.c = s.c ∧ Q 1000 ∧ constA (Value.int IntKind.i64 (3 : Int)) = AVal.int
 IntKind.i64 1 ∧ Qc 0 ∧ y.value = s.value ∧ Z44 ((↑y.i : Int) = (↑s.i : Int) ∧ Qb false ∧ constA (Value.int IntKind.i64 (2 : Int)) = AVal.int IntKind.i64 0 ∧ y.rd = s.rd ∧ (ny0 p ((dA p).heap (US.mk n i rd rs ws xi a c bk
 value steps asked W rows)) (↑i : Int)).I s ∧ (ny0 p ((dA p).heap (US.mk n i rd rs ws xi a c bk value steps asked W rows)) (↑i : Int)).m s < (ny0 p ((dA p).heap (US.mk n i rd rs ws xi a c bk value steps asked W rows)) (↑i
 : Int)).m y ∧ True)))) ∧ (decide ((↑y.ws.length : Int) ≥ (32 : Int)) = false → (y.ws.length + [Wo.mk ((26 : Int) + 2 * (at2 p (IntKind.i64.wrap ((↑y.i : Int) - 1))).pl) (valT (Rl.mk y.rd).ls (Op.mk (at2 p
 (IntKind.i64.wrap ((↑y.i : Int) - 1))).kd (at2 p (IntKind.i64.wrap ((↑y.i : Int) - 1))).pl (at2 p (IntKind.i64.wrap ((↑y.i : Int) - 1))).vl))].length) * 16 ≤ 140737488355328 ∧ bitD.pre ((26 : Int) + 2 * (at2 p
 (IntKind.i64.wrap ((↑y.i : Int) - 1))).pl, ()) ∧ (decide ((↑y.i : Int) > (↑p.length : Int)) = true → ∃ (s : (ny0 p ((dA p).heap (US.mk n i rd rs ws xi a c bk value steps asked W rows)) (↑i : Int)).St), p = p ∧ y.rs =
 s.rs ∧ wV (↑n : Int) 0 0 0 0 0 = wV (↑n : Int) 0 0 0 0 0 ∧ wat = wat ∧ Z39 (y.steps = s.steps ∧ Q 32 ∧ y.ws ++ [Wo.mk ((26 : Int) + 2 * (at2 p (IntKind.i64.wrap ((↑y.i : Int) - 1))).pl) (valT (Rl.mk y.rd).ls (Op.mk (at2
 p (IntKind.i64.wrap ((↑y.i : Int) - 1))).kd (at2 p (IntKind.i64.wrap ((↑y.i : Int) - 1))).pl (at2 p (IntKind.i64.wrap ((↑y.i : Int) - 1))).vl))] = s.ws ∧ IntKind.u64.wrap (↑(BitVec.ofInt IntKind.u64.bits (filtT y.ws) |||
 BitVec.ofInt IntKind.u64.bits (bitT ((26 : Int) + 2 * (at2 p (IntKind.i64.wrap ((↑y.i : Int) - 1))).pl))).toNat : Int) = filtT s.ws ∧ y.asked = s.asked ∧ Z40 (y.c = s.c ∧ Z75 (y.value = s.value ∧ Z5 ((↑y.i : Int) = (↑s.i
 : Int) ∧ constA (Value.bool false) = AVal.bool false ∧ constA (Value.int IntKind.i64 (1 : Int)) = AVal.int IntKind.i64 0 ∧ y.rd = s.rd ∧ (ny0 p ((dA p).heap (US.mk n i rd rs ws xi a c bk value steps asked W rows)) (↑i :
 Int)).I s ∧ (ny0 p ((dA p).heap (US.mk n i rd rs ws xi a c bk value steps asked W rows)) (↑i : Int)).m s < (ny0 p ((dA p).heap (US.mk n i rd rs ws xi a c bk value steps asked W rows)) (↑i : Int)).m y ∧ True))))) ∧
 (decide ((↑y.i : Int) > (↑p.length : Int)) = false → (decide ((↑y.i : Int) > 0) = true → Bi y.i p ∧ Bi y.i p ∧ (((at2 p (IntKind.i64.wrap ((↑y.i : Int) - 1))).kd == 0) = true → Bi y.i p ∧ Bi y.i p ∧ (y.rd.length + [Wo.mk
 (at2 p (IntKind.i64.wrap ((↑y.i : Int) - 1))).pl y.value].length) * 16 ≤ 140737488355328 ∧ ∃ (s : (ny0 p ((dA p).heap (US.mk n i rd rs ws xi a c bk value steps asked W rows)) (↑i : Int)).St), p = p ∧ y.rs = s.rs ∧ wV (↑n
 : Int) 0 0 0 0 0 = wV (↑n : Int) 0 0 0 0 0 ∧ wat = wat ∧ Z39 (y.steps = s.steps ∧ Q 32 ∧ y.ws ++ [Wo.mk ((26 : Int) + 2 * (at2 p (IntKind.i64.wrap ((↑y.i : Int) - 1))).pl) (valT (Rl.mk y.rd).ls (Op.mk (at2 p
 (IntKind.i64.wrap ((↑y.i : Int) - 1))).kd (at2 p (IntKind.i64.wrap ((↑y.i : Int) - 1))).pl (at2 p (IntKind.i64.wrap ((↑y.i : Int) - 1))).vl))] = s.ws ∧ IntKind.u64.wrap (↑(BitVec.ofInt IntKind.u64.bits (filtT y.ws) |||
 BitVec.ofInt IntKind.u64.bits (bitT ((26 : Int) + 2 * (at2 p (IntKind.i64.wrap ((↑y.i : Int) - 1))).pl))).toNat : Int) = filtT s.ws ∧ y.asked = s.asked ∧ Z40 (y.c = s.c ∧ Z75 (y.value = s.value ∧ Z5 (IntKind.i64.wrap
 ((↑y.i : Int) + 1) = (↑s.i : Int) ∧ constA (Value.bool false) = AVal.bool false ∧ Q 0 ∧ y.rd ++ [Wo.mk (at2 p (IntKind.i64.wrap ((↑y.i : Int) - 1))).pl y.value] = s.rd ∧ (ny0 p ((dA p).heap (US.mk n i rd rs ws xi a c bk
 value steps asked W rows)) (↑i : Int)).I s ∧ (ny0 p ((dA p).heap (US.mk n i rd rs ws xi a c bk value steps asked W rows)) (↑i : Int)).m s < (ny0 p ((dA p).heap (US.mk n i rd rs ws xi a c bk value steps asked W rows)) (↑i
 : Int)).m y ∧ True))))) ∧ (((at2 p (IntKind.i64.wrap ((↑y.i : Int) - 1))).kd == 0) = false → ∃ (s : (ny0 p ((dA p).heap (US.mk n i rd rs ws xi a c bk value steps asked W rows)) (↑i : Int)).St), p = p ∧ y.rs = s.rs ∧ wV
 (↑n : Int) 0 0 0 0 0 = wV (↑n : Int) 0 0 0 0 0 ∧ wat = wat ∧ Z39 (y.steps = s.steps ∧ Q 32 ∧ y.ws ++ [Wo.mk ((26 : Int) + 2 * (at2 p (IntKind.i64.wrap ((↑y.i : Int) - 1))).pl) (valT (Rl.mk y.rd).ls (Op.mk (at2 p
 (IntKind.i64.wrap ((↑y.i : Int) - 1))).kd (at2 p (IntKind.i64.wrap ((↑y.i : Int) - 1))).pl (at2 p (IntKind.i64.wrap ((↑y.i : Int) - 1))).vl))] = s.ws ∧ IntKind.u64.wrap (↑(BitVec.ofInt IntKind.u64.bits (filtT y.ws) |||
 BitVec.ofInt IntKind.u64.bits (bitT ((26 : Int) + 2 * (at2 p (IntKind.i64.wrap ((↑y.i : Int) - 1))).pl))).toNat : Int) = filtT s.ws ∧ y.asked = s.asked ∧ Z40 (y.c = s.c ∧ Z75 (y.value = s.value ∧ Z5 (IntKind.i64.wrap
 ((↑y.i : Int) + 1) = (↑s.i : Int) ∧ constA (Value.bool false) = AVal.bool false ∧ Q 0 ∧ y.rd = s.rd ∧ (ny0 p ((dA p).heap (US.mk n i rd rs ws xi a c bk value steps asked W rows)) (↑i : Int)).I s ∧ (ny0 p ((dA p).heap
 (US.mk n i rd rs ws xi a c bk value steps asked W rows)) (↑i : Int)).m s < (ny0 p ((dA p).heap (US.mk n i rd rs ws xi a c bk value steps asked W rows)) (↑i : Int)).m y ∧ True)))))) ∧ (decide ((↑y.i : Int) > 0) = false →
 ∃ (s : (ny0 p ((dA p).heap (US.mk n i rd rs ws xi a c bk value steps asked W rows)) (↑i : Int)).St), p = p ∧ y.rs = s.rs ∧ wV (↑n : Int) 0 0 0 0 0 = wV (↑n : Int) 0 0 0 0 0 ∧ wat = wat ∧ Z39 (y.steps = s.steps ∧ Q 32 ∧
 y.ws ++ [Wo.mk ((26 : Int) + 2 * (at2 p (IntKind.i64.wrap ((↑y.i : Int) - 1))).pl) (valT (Rl.mk y.rd).ls (Op.mk (at2 p (IntKind.i64.wrap ((↑y.i : Int) - 1))).kd (at2 p (IntKind.i64.wrap ((↑y.i : Int) - 1))).pl (at2 p
 (IntKind.i64.wrap ((↑y.i : Int) - 1))).vl))] = s.ws ∧ IntKind.u64.wrap (↑(BitVec.ofInt IntKind.u64.bits (filtT y.ws) ||| BitVec.ofInt IntKind.u64.bits (bitT ((26 : Int) + 2 * (at2 p (IntKind.i64.wrap ((↑y.i : Int) -
 1))).pl))).toNat : Int) = filtT s.ws ∧ y.asked = s.asked ∧ Z40 (y.c = s.c ∧ Z75 (y.value = s.value ∧ Z5 (IntKind.i64.wrap ((↑y.i : Int) + 1) = (↑s.i : Int) ∧ constA (Value.bool false) = AVal.bool false ∧ Q 0 ∧ y.rd =
 s.rd ∧ (ny0 p ((dA p).heap (US.mk n i rd rs ws xi a c bk value steps asked W rows)) (↑i : Int)).I s ∧ (ny0 p ((dA p).heap (US.mk n i rd rs ws xi a c bk value steps asked W rows)) (↑i : Int)).m s < (ny0 p ((dA p).heap
 (US.mk n i rd rs ws xi a c bk value steps asked W rows)) (↑i : Int)).m y ∧ True)))))))))))))) ∧ (∀ (y : (ny1 p ((dA p).heap (US.mk n i rd rs ws xi a c bk value steps asked W rows)) (↑i : Int)).St), (ny1 p ((dA p).heap
 (US.mk n i rd rs ws xi a c bk value steps asked W rows)) (↑i : Int)).I y → sizeD.pre (mp1, ()) ∧ (decide ((↑(wV (↑n : Int) 0 0 0 0 0).length : Int) < 34) = true → KD y.i p y.rd y.value) ∧ (decide ((↑(wV (↑n : Int) 0 0 0
 0 0).length : Int) < 34) = false → stripeD.pre (mp1, hashT y.a, ()) ∧ badD.pre (Mw.mk (wV (↑n : Int) 0 0 0 0 0), (2 : Int) + hashT y.a, ()) ∧ ((0 : Int) ≤ 2 + hashT y.a ∧ (2 : Int) + hashT y.a < (↑(wV (↑n : Int) 0 0 0 0
 0).length : Int)) ∧ ((0 : Int) ≤ 2 + hashT y.a ∧ (2 : Int) + hashT y.a < (↑(wV (↑n : Int) 0 0 0 0 0).length : Int)) ∧ freshD.pre (at0 (wV (↑n : Int) 0 0 0 0 0) ((2 : Int) + hashT y.a), (0 : Int), ()) ∧ ∃ (s : (oAB
 p).St), p = p ∧ y.rs = s.rs ∧ wV (↑n : Int) 0 0 0 0 0 = wV (↑s.n : Int) 0 0 0 0 0 ∧ wat = wat ∧ Z2 (IntKind.i64.wrap (y.steps + 1) = s.steps ∧ Q 32 ∧ y.ws = s.ws ∧ filtT y.ws = filtT s.ws ∧ y.asked = s.asked ∧ Z40 (y.c =
 s.c ∧ Z78 (y.a = s.a ∧ hashT y.a = hashT s.a ∧ AVal.int IntKind.i64 (at0 (wV (↑n : Int) 0 0 0 0 0) ((2 : Int) + hashT y.a)) = AVal.int IntKind.i64 0 ∧ y.value = s.value ∧ Z5 ((↑y.i : Int) = (↑s.i : Int) ∧ Z16 (y.rd =
 s.rd ∧ (oAB p).I (US.mk n i rd rs ws xi a c bk value steps asked W rows) s ∧ True))))))) ∧ (∀ (y : (ny2 p ((dA p).heap (US.mk n i rd rs ws xi a c bk value steps asked W rows))).St), (ny2 p ((dA p).heap (US.mk n i rd rs
 ws xi a c bk value steps asked W rows))).I y → sizeD.pre (mp1, ()) ∧ (decide ((↑(wV (↑n : Int) 0 0 0 0 0).length : Int) < 34) = true → KD y.i p y.rd y.value) ∧ (decide ((↑(wV (↑n : Int) 0 0 0 0 0).length : Int) < 34) =
 false → threadD.pre (mp1, (1 : Int), (0 : Int), ()) ∧ badD.pre (Mw.mk (wV (↑n : Int) 0 0 0 0 0), (13 : Int), ()) ∧ Bk 13 (wV (↑n : Int) 0 0 0 0 0) ∧ Bk 13 (wV (↑n : Int) 0 0 0 0 0) ∧ Bk 13 (wV (↑n : Int) 0 0 0 0 0) ∧ Bk
 13 (wV (↑n : Int) 0 0 0 0 0) ∧ (decide ((↑y.ws.length : Int) > 0) = true → y.ws.length * 16 ≤ 140737488355328 ∧ placesD.pre (y.ws, ()) ∧ rowsD.pre (mp1, List.map (fun (x : Wo) => x.pl) y.ws, ()) ∧ ((y.c == 1) = true →
 (decide ((0 : Int) ≥ (↑(rowsT (List.map (fun (x : Wo) => x.pl) y.ws)).length : Int)) = true → Stuck "sum: which") ∧ (decide ((0 : Int) ≥ (↑(rowsT (List.map (fun (x : Wo) => x.pl) y.ws)).length : Int)) = false → ∃ (s :
 (oAE p).St), p = p ∧ y.rs = s.rs ∧ (wV (↑n : Int) 0 0 0 0 0).set (13 : Nat) (2 : Int) = wRv (↑s.n : Int) 0 2 (List.take s.xi s.rows) ∧ wat = wat ∧ Z2 (IntKind.i64.wrap (y.steps + 1) = s.steps ∧ Q 32 ∧ y.ws = s.ws ∧ filtT
 y.ws = filtT s.ws ∧ y.asked = s.asked ∧ Z40 (y.c = s.c ∧ Z55 ((0 : Int) = (↑s.xi : Int) ∧ y.value = s.value ∧ Z19 ((1 : Int) = s.bk ∧ Z20 (rowsT (List.map (fun (x : Wo) => x.pl) y.ws) = s.rows ∧ Qn ∧ constA (Value.bool
 true) = AVal.bool true ∧ (↑y.i : Int) = (↑s.i : Int) ∧ Z16 (y.rd = s.rd ∧ (oAE p).I (US.mk n i rd rs ws xi a c bk value steps asked W rows) s ∧ True)))))))) ∧ ((y.c == 1) = false → ((y.c == 2) = true → (decide ((0 : Int)
 ≥ (↑(rowsT (List.map (fun (x : Wo) => x.pl) y.ws)).length : Int)) = true → Stuck "sum: which") ∧ (decide ((0 : Int) ≥ (↑(rowsT (List.map (fun (x : Wo) => x.pl) y.ws)).length : Int)) = false → ∃ (s : (oAE p).St), p = p ∧
 y.rs = s.rs ∧ (wV (↑n : Int) 0 0 0 0 0).set (13 : Nat) (2 : Int) = wRv (↑s.n : Int) 0 2 (List.take s.xi s.rows) ∧ wat = wat ∧ Z2 (IntKind.i64.wrap (y.steps + 1) = s.steps ∧ Q 32 ∧ y.ws = s.ws ∧ filtT y.ws = filtT s.ws ∧
 y.asked = s.asked ∧ Z40 (y.c = s.c ∧ Z55 ((0 : Int) = (↑s.xi : Int) ∧ y.value = s.value ∧ Z19 ((2 : Int) = s.bk ∧ Z20 (rowsT (List.map (fun (x : Wo) => x.pl) y.ws) = s.rows ∧ Qn ∧ constA (Value.bool true) = AVal.bool
 true ∧ (↑y.i : Int) = (↑s.i : Int) ∧ Z16 (y.rd = s.rd ∧ (oAE p).I (US.mk n i rd rs ws xi a c bk value steps asked W rows) s ∧ True)))))))) ∧ ((y.c == 2) = false → (decide ((0 : Int) ≥ (↑(rowsT (List.map (fun (x : Wo) =>
 x.pl) y.ws)).length : Int)) = true → Stuck "sum: which") ∧ (decide ((0 : Int) ≥ (↑(rowsT (List.map (fun (x : Wo) => x.pl) y.ws)).length : Int)) = false → ∃ (s : (oAE p).St), p = p ∧ y.rs = s.rs ∧ (wV (↑n : Int) 0 0 0 0
 0).set (13 : Nat) (2 : Int) = wRv (↑s.n : Int) 0 2 (List.take s.xi s.rows) ∧ wat = wat ∧ Z2 (IntKind.i64.wrap (y.steps + 1) = s.steps ∧ Q 32 ∧ y.ws = s.ws ∧ filtT y.ws = filtT s.ws ∧ y.asked = s.asked ∧ Z40 (y.c = s.c ∧
 Z55 ((0 : Int) = (↑s.xi : Int) ∧ y.value = s.value ∧ Z19 ((0 : Int) = s.bk ∧ Z20 (rowsT (List.map (fun (x : Wo) => x.pl) y.ws) = s.rows ∧ Qn ∧ constA (Value.bool true) = AVal.bool true ∧ (↑y.i : Int) = (↑s.i : Int) ∧ Z16
 (y.rd = s.rd ∧ (oAE p).I (US.mk n i rd rs ws xi a c bk value steps asked W rows) s ∧ True)))))))))) ∧ (decide ((↑y.ws.length : Int) > 0) = false → (true = true → ∃ (s : (oAJ p).St), p = p ∧ y.rs = s.rs ∧ (wV (↑n : Int) 0
 0 0 0 0).set (13 : Nat) (2 : Int) = wRv (↑s.n : Int) s.a (2 : Int) s.rows ∧ wat = wat ∧ Z2 (IntKind.i64.wrap (y.steps + 1) = s.steps ∧ Q 32 ∧ y.ws = s.ws ∧ filtT y.ws = filtT s.ws ∧ y.asked = s.asked ∧ Z40 (y.c = s.c ∧
 Z79 (y.value = s.value ∧ (0 : Int) = s.a ∧ Z80 (constA (Value.bool true) = AVal.bool true ∧ (↑y.i : Int) = (↑s.i : Int) ∧ Z16 (y.rd = s.rd ∧ (oAJ p).I (US.mk n i rd rs ws xi a c bk value steps asked W rows) s ∧
 True)))))) ∧ (true = false → (decide ((0 : Int) < (↑y.ws.length : Int)) = true → Stuck "sum: which") ∧ (decide ((0 : Int) < (↑y.ws.length : Int)) = false → Stuck "sum: which"))))) ∧ ∃ (s : (ny0 p ((dA p).heap (US.mk n i
 rd rs ws xi a c bk value steps asked W rows)) (↑i : Int)).St), p = p ∧ rs = s.rs ∧ wV (↑n : Int) 0 0 0 0 0 = wV (↑n : Int) 0 0 0 0 0 ∧ wat = wat ∧ Z39 (steps = s.steps ∧ Q 32 ∧ ws = s.ws ∧ filtT ws = filtT s.ws ∧ asked =
 s.asked ∧ Z40 (c = s.c ∧ Z75 (value = s.value ∧ Z5 ((↑i : Int) = (↑s.i : Int) ∧ Z46 (rd = s.rd ∧ (ny0 p ((dA p).heap (US.mk n i rd rs ws xi a c bk value steps asked W rows)) (↑i : Int)).I s ∧ True)))))) := by kernel_rfl
theorem tu_A_ok (p : List Op) (s : US) (hI : (dA p).I s) : Paid (vcD p (dA p) s) := by
  obtain ⟨n, i, rd, rs, ws, xi, a, c, bk, value, steps, asked, W, rows⟩ := s
  obtain ⟨⟨⟨⟨hpO, hc, hi, hrd, hrs, hws, hwd, hrr⟩, hnod⟩, hi1⟩, hn⟩ := hI
  have hi1 : 1 ≤ i := hi1
  have hc : c = 1 ∨ c = 2 := hc
  have hi : i ≤ p.length + 1 := hi
  have hrd : rd.length ≤ i := hrd
  have hrs : rs.length ≤ i := hrs
  have hws : ws.length ≤ i := hws
  have hwd : ∀ w ∈ ws, isData w.pl := hwd
  have hrr : ∀ w ∈ rs, 0 ≤ w.pl ∧ w.pl < 3 := hrr
  have hn : n ≤ 1 := hn
  have hv : n = 0 ∨ n = 1 := by omega
  have hB : ∀ {n xi : Nat} {a bk value steps asked : Int} {W rows : List Int}, baseI p ⟨n, i, rd, rs, ws, xi, a, c, bk, value, steps, asked, W, rows⟩ := mkBase hpO hc hi hrd hrs hws hwd hrr
  have hp8 := hpO.1
  refine ⟨?_⟩
  rw [tu_A]
  refine ⟨?_, ?_, ?_, ?_⟩
  · intro y
    intro h1
    obtain ⟨⟨⟨hpO, hc, hi, hrd, hrs, hws, hwd, hrr⟩, hnod⟩, hI⟩ := h1
    have hB : ∀ {n xi : Nat} {a bk value steps asked : Int} {W rows : List Int}, baseI p ⟨n, y.i, y.rd, y.rs, y.ws, xi, a, y.c, bk, value, steps, asked, W, rows⟩ := mkBase hpO hc hi hrd hrs hws hwd hrr
    obtain ⟨h1, hi0⟩ := hI
    have h1 : 1 ≤ y.i := h1
    have hi0 : (i : Int) ≤ (y.i : Int) := hi0
    refine ⟨?_, ?_⟩
    · intro h2
      replace h2 := eq_of_beq h2
      first
      | (exfalso; omega)
      | (exact ⟨⟨y.n, y.i, y.rd, y.rs, y.ws, y.xi, y.a, y.c, y.bk, y.value, y.steps, y.asked, y.W, y.rows⟩, ⟨rfl, rfl, rfl, rfl, t39 ⟨rfl, rfl, rfl, rfl, rfl, t40 ⟨rfl, t75 ⟨rfl, t5 ⟨rfl, rfl, rfl, rfl, ⟨(mkBW hB hnod), ⟨(show 1 ≤ y.i by omega), (show (i : Int) ≤ ((y.i : Nat) : Int) by omega)⟩⟩, (show 100 - (y.i) < 100 - y.i by omega), trivial⟩⟩⟩⟩⟩⟩)
    · intro h3
      replace h3 := ne_of_beq_false h3
      first
      | (exfalso; omega)
      | (refine ⟨?_, ?_⟩
         · intro h4
           replace h4 := of_decide_eq_true h4
           first
           | (exfalso; omega)
           | (exact ⟨⟨y.n, y.i, y.rd, y.rs, y.ws, y.xi, y.a, y.c, y.bk, y.value, y.steps, y.asked, y.W, y.rows⟩, ⟨rfl, rfl, rfl, rfl, t39 ⟨rfl, rfl, rfl, rfl, rfl, t40 ⟨rfl, t76 ⟨rfl, t5 ⟨rfl, t16 ⟨rfl, ⟨(mkBW hB hnod), (show y.i = p.length + 1 by omega)⟩, (show 1 < 100 - y.i by omega), trivial⟩⟩⟩⟩⟩⟩⟩)
         · intro h5
           replace h5 := of_decide_eq_false h5
           first
           | (exfalso; omega)
           | (refine ⟨?_, ?_, ?_, ?_⟩
              · exact ⟨(by rw [wM (by omega)]; omega), (by rw [wM (by omega)]; omega)⟩
              · exact ⟨(by rw [wM (by omega)]; omega), (by rw [wM (by omega)]; omega)⟩
              · intro h6
                have hpl := plan_at hpO (show 1 ≤ y.i by omega) (show y.i ≤ p.length by omega)
                have hpd := data_of hpl.1 hpl.2
                have hph := hash_in hpd
                refine ⟨?_, ?_, (And.intro rfl (And.intro (show (0 : Int) ≤ (at2 p (IntKind.i64.wrap ((↑y.i : Int) - (1 : Int)))).pl from (plan_at hpO (by omega) (by omega)).1) (show (at2 p (IntKind.i64.wrap ((↑y.i : Int) - (1 : Int)))).pl < (4 : Int) from (plan_at hpO (by omega) (by omega)).2))), ?_, ?_⟩
                · exact ⟨(by rw [wM (by omega)]; omega), (by rw [wM (by omega)]; omega)⟩
                · exact ⟨(by rw [wM (by omega)]; omega), (by rw [wM (by omega)]; omega)⟩
                · intro h7
                  replace h7 := of_decide_eq_true h7
                  first
                  | (exfalso; omega)
                  | (refine ⟨(And.intro rfl hpd), ?_, ?_⟩
                     · intro h8
                       replace h8 := of_decide_eq_true h8
                       first
                       | (exfalso; omega)
                       | (exact ⟨⟨y.n, y.i, y.rd, y.rs, y.ws, y.xi, y.a, y.c, y.bk, y.value, y.steps, y.asked, y.W, y.rows⟩, ⟨rfl, rfl, rfl, rfl, t39 ⟨rfl, rfl, rfl, rfl, rfl, t40 ⟨rfl, rfl, rfl, rfl, rfl, t44 ⟨rfl, rfl, rfl, rfl, ⟨(mkBW hB hnod), ⟨(show 1 ≤ y.i by omega), (show (i : Int) ≤ ((y.i : Nat) : Int) by omega)⟩⟩, (show 100 - (y.i) < 100 - y.i by omega), trivial⟩⟩⟩⟩⟩)
                     · intro h9
                       replace h9 := of_decide_eq_false h9
                       first
                       | (exfalso; omega)
                       | (refine ⟨(And.intro rfl (show y.rs.length < 32 by omega)), ?_⟩
                          exact ⟨⟨y.n, y.i, y.rd, y.rs, y.ws, y.xi, (26 : Int) + (2 : Int) * (at2 p (IntKind.i64.wrap ((↑y.i : Int) - (1 : Int)))).pl, y.c, y.bk, y.value, y.steps, y.asked, y.W, y.rows⟩, ⟨rfl, rfl, rfl, rfl, t39 ⟨rfl, rfl, rfl, rfl, rfl, t40 ⟨rfl, t77 ⟨rfl, rfl, rfl, t5 ⟨rfl, t16 ⟨rfl, ⟨(mkBW hB hnod), ⟨mkRead (by omega) (by omega) hpd, (show (i : Int) ≤ ((y.i : Nat) : Int) by omega)⟩⟩, (show 1 < 100 - y.i by omega), trivial⟩⟩⟩⟩⟩⟩⟩))
                · intro h10
                  replace h10 := of_decide_eq_false h10
                  first
                  | (exfalso; omega)
                  | (refine ⟨hpd, ?_, ?_⟩
                     · intro h11
                       have hno := no_bit hpd h11
                       refine ⟨(And.intro rfl hpd), ?_, ?_⟩
                       · intro h12
                         replace h12 := of_decide_eq_true h12
                         first
                         | (exfalso; omega)
                         | (exact ⟨⟨y.n, y.i, y.rd, y.rs, y.ws, y.xi, y.a, y.c, y.bk, y.value, y.steps, y.asked, y.W, y.rows⟩, ⟨rfl, rfl, rfl, rfl, t39 ⟨rfl, rfl, rfl, rfl, rfl, t40 ⟨rfl, rfl, rfl, rfl, rfl, t44 ⟨rfl, rfl, rfl, rfl, ⟨(mkBW hB hnod), ⟨(show 1 ≤ y.i by omega), (show (i : Int) ≤ ((y.i : Nat) : Int) by omega)⟩⟩, (show 100 - (y.i) < 100 - y.i by omega), trivial⟩⟩⟩⟩⟩)
                       · intro h13
                         replace h13 := of_decide_eq_false h13
                         first
                         | (exfalso; omega)
                         | (refine ⟨(And.intro rfl (show y.rs.length < 32 by omega)), ?_⟩
                            exact ⟨⟨y.n, y.i, y.rd, y.rs, y.ws, y.xi, (26 : Int) + (2 : Int) * (at2 p (IntKind.i64.wrap ((↑y.i : Int) - (1 : Int)))).pl, y.c, y.bk, y.value, y.steps, y.asked, y.W, y.rows⟩, ⟨rfl, rfl, rfl, rfl, t39 ⟨rfl, rfl, rfl, rfl, rfl, t40 ⟨rfl, t77 ⟨rfl, rfl, rfl, t5 ⟨rfl, t16 ⟨rfl, ⟨(mkBW hB hnod), ⟨mkRead (by omega) (by omega) hpd, (show (i : Int) ≤ ((y.i : Nat) : Int) by omega)⟩⟩, (show 1 < 100 - y.i by omega), trivial⟩⟩⟩⟩⟩⟩⟩)
                     · intro h14
                       refine ⟨(And.intro (show y.ws.length ≤ 1000 by omega) (And.intro hpd rfl)), ?_, ?_⟩
                       · intro h15
                         have hf0 := of_decide_eq_true h15
                         have hf1 := find_ub hf0
                         refine ⟨?_, ?_, ?_, ?_⟩
                         · exact ⟨hf0, hf1⟩
                         · exact ⟨hf0, hf1⟩
                         · intro h16
                           replace h16 := of_decide_eq_true h16
                           first
                           | (exfalso; omega)
                           | (exact ⟨⟨y.n, y.i, y.rd, y.rs, y.ws, y.xi, y.a, y.c, y.bk, (at3 y.ws (findT (Wr.mk (32 : Int) y.ws (filtT y.ws)).ls ((26 : Int) + (2 : Int) * (at2 p (IntKind.i64.wrap ((↑y.i : Int) - (1 : Int)))).pl))).vl, y.steps, IntKind.i64.wrap (y.asked + (1 : Int)), y.W, y.rows⟩, ⟨rfl, rfl, rfl, rfl, t39 ⟨rfl, rfl, rfl, rfl, rfl, t40 ⟨rfl, t75 ⟨rfl, t5 ⟨rfl, rfl, rfl, rfl, ⟨(mkBW hB hnod), ⟨(show 1 ≤ y.i by omega), (show (i : Int) ≤ ((y.i : Nat) : Int) by omega)⟩⟩, (show 100 - (y.i) < 100 - y.i by omega), trivial⟩⟩⟩⟩⟩⟩)
                         · intro h17
                           replace h17 := of_decide_eq_false h17
                           first
                           | (exfalso; omega)
                           | (refine ⟨?_, ?_⟩
                              · intro h18
                                replace h18 := of_decide_eq_true h18
                                first
                                | (exfalso; omega)
                                | (refine ⟨?_, ?_, ?_, ?_⟩
                                   · exact ⟨(by rw [wM (by omega)]; omega), (by rw [wM (by omega)]; omega)⟩
                                   · exact ⟨(by rw [wM (by omega)]; omega), (by rw [wM (by omega)]; omega)⟩
                                   · intro h19
                                     have hpl := plan_at hpO (show 1 ≤ y.i by omega) (show y.i ≤ p.length by omega)
                                     have hpd := data_of hpl.1 hpl.2
                                     have hph := hash_in hpd
                                     refine ⟨?_, ?_, (by simp only [List.length_cons, List.length_nil, tak_len] at *; first | omega | (have := rows_take rows hr8 xi (by omega); have := rows_len _ this; omega)), ?_⟩
                                     · exact ⟨(by rw [wM (by omega)]; omega), (by rw [wM (by omega)]; omega)⟩
                                     · exact ⟨(by rw [wM (by omega)]; omega), (by rw [wM (by omega)]; omega)⟩
                                     · exact ⟨⟨y.n, y.i + 1, y.rd ++ [Wo.mk (at2 p (IntKind.i64.wrap ((↑y.i : Int) - (1 : Int)))).pl (at3 y.ws (findT (Wr.mk (32 : Int) y.ws (filtT y.ws)).ls ((26 : Int) + (2 : Int) * (at2 p (IntKind.i64.wrap ((↑y.i : Int) - (1 : Int)))).pl))).vl], y.rs, y.ws, y.xi, y.a, y.c, y.bk, (at3 y.ws (findT (Wr.mk (32 : Int) y.ws (filtT y.ws)).ls ((26 : Int) + (2 : Int) * (at2 p (IntKind.i64.wrap ((↑y.i : Int) - (1 : Int)))).pl))).vl, y.steps, IntKind.i64.wrap (y.asked + (1 : Int)), y.W, y.rows⟩, ⟨rfl, rfl, rfl, rfl, t39 ⟨rfl, rfl, rfl, rfl, rfl, t40 ⟨rfl, t75 ⟨rfl, t5 ⟨(wN (by omega)), rfl, rfl, rfl, ⟨(mkBW (mkBase hpO hc (by first | omega | (simp only [List.length_append, List.length_cons, List.length_nil, List.length_set]; omega)) (by first | omega | (simp only [List.length_append, List.length_cons, List.length_nil, List.length_set]; omega)) (by first | omega | (simp only [List.length_append, List.length_cons, List.length_nil, List.length_set]; omega)) (by first | omega | (simp only [List.length_append, List.length_cons, List.length_nil, List.length_set]; omega)) hwd hrr) hnod), ⟨(show 1 ≤ y.i + 1 by omega), (show (i : Int) ≤ ((y.i + 1 : Nat) : Int) by omega)⟩⟩, (show 100 - (y.i + 1) < 100 - y.i by omega), trivial⟩⟩⟩⟩⟩⟩
                                   · intro h20
                                     have hpl := plan_at hpO (show 1 ≤ y.i by omega) (show y.i ≤ p.length by omega)
                                     have hpd := data_of hpl.1 hpl.2
                                     have hph := hash_in hpd
                                     exact ⟨⟨y.n, y.i + 1, y.rd, y.rs, y.ws, y.xi, y.a, y.c, y.bk, (at3 y.ws (findT (Wr.mk (32 : Int) y.ws (filtT y.ws)).ls ((26 : Int) + (2 : Int) * (at2 p (IntKind.i64.wrap ((↑y.i : Int) - (1 : Int)))).pl))).vl, y.steps, IntKind.i64.wrap (y.asked + (1 : Int)), y.W, y.rows⟩, ⟨rfl, rfl, rfl, rfl, t39 ⟨rfl, rfl, rfl, rfl, rfl, t40 ⟨rfl, t75 ⟨rfl, t5 ⟨(wN (by omega)), rfl, rfl, rfl, ⟨(mkBW (mkBase hpO hc (by first | omega | (simp only [List.length_append, List.length_cons, List.length_nil, List.length_set]; omega)) (by first | omega | (simp only [List.length_append, List.length_cons, List.length_nil, List.length_set]; omega)) (by first | omega | (simp only [List.length_append, List.length_cons, List.length_nil, List.length_set]; omega)) (by first | omega | (simp only [List.length_append, List.length_cons, List.length_nil, List.length_set]; omega)) hwd hrr) hnod), ⟨(show 1 ≤ y.i + 1 by omega), (show (i : Int) ≤ ((y.i + 1 : Nat) : Int) by omega)⟩⟩, (show 100 - (y.i + 1) < 100 - y.i by omega), trivial⟩⟩⟩⟩⟩⟩)
                              · intro h21
                                replace h21 := of_decide_eq_false h21
                                first
                                | (exfalso; omega)
                                | (exact ⟨⟨y.n, y.i + 1, y.rd, y.rs, y.ws, y.xi, y.a, y.c, y.bk, (at3 y.ws (findT (Wr.mk (32 : Int) y.ws (filtT y.ws)).ls ((26 : Int) + (2 : Int) * (at2 p (IntKind.i64.wrap ((↑y.i : Int) - (1 : Int)))).pl))).vl, y.steps, IntKind.i64.wrap (y.asked + (1 : Int)), y.W, y.rows⟩, ⟨rfl, rfl, rfl, rfl, t39 ⟨rfl, rfl, rfl, rfl, rfl, t40 ⟨rfl, t75 ⟨rfl, t5 ⟨(wN (by omega)), rfl, rfl, rfl, ⟨(mkBW (mkBase hpO hc (by first | omega | (simp only [List.length_append, List.length_cons, List.length_nil, List.length_set]; omega)) (by first | omega | (simp only [List.length_append, List.length_cons, List.length_nil, List.length_set]; omega)) (by first | omega | (simp only [List.length_append, List.length_cons, List.length_nil, List.length_set]; omega)) (by first | omega | (simp only [List.length_append, List.length_cons, List.length_nil, List.length_set]; omega)) hwd hrr) hnod), ⟨(show 1 ≤ y.i + 1 by omega), (show (i : Int) ≤ ((y.i + 1 : Nat) : Int) by omega)⟩⟩, (show 100 - (y.i + 1) < 100 - y.i by omega), trivial⟩⟩⟩⟩⟩⟩))
                       · intro h22
                         have hno := no_find (of_decide_eq_false h22)
                         refine ⟨(And.intro rfl hpd), ?_, ?_⟩
                         · intro h23
                           replace h23 := of_decide_eq_true h23
                           first
                           | (exfalso; omega)
                           | (exact ⟨⟨y.n, y.i, y.rd, y.rs, y.ws, y.xi, y.a, y.c, y.bk, y.value, y.steps, IntKind.i64.wrap (y.asked + (1 : Int)), y.W, y.rows⟩, ⟨rfl, rfl, rfl, rfl, t39 ⟨rfl, rfl, rfl, rfl, rfl, t40 ⟨rfl, rfl, rfl, rfl, rfl, t44 ⟨rfl, rfl, rfl, rfl, ⟨(mkBW hB hnod), ⟨(show 1 ≤ y.i by omega), (show (i : Int) ≤ ((y.i : Nat) : Int) by omega)⟩⟩, (show 100 - (y.i) < 100 - y.i by omega), trivial⟩⟩⟩⟩⟩)
                         · intro h24
                           replace h24 := of_decide_eq_false h24
                           first
                           | (exfalso; omega)
                           | (refine ⟨(And.intro rfl (show y.rs.length < 32 by omega)), ?_⟩
                              exact ⟨⟨y.n, y.i, y.rd, y.rs, y.ws, y.xi, (26 : Int) + (2 : Int) * (at2 p (IntKind.i64.wrap ((↑y.i : Int) - (1 : Int)))).pl, y.c, y.bk, y.value, y.steps, IntKind.i64.wrap (y.asked + (1 : Int)), y.W, y.rows⟩, ⟨rfl, rfl, rfl, rfl, t39 ⟨rfl, rfl, rfl, rfl, rfl, t40 ⟨rfl, t77 ⟨rfl, rfl, rfl, t5 ⟨rfl, t16 ⟨rfl, ⟨(mkBW hB hnod), ⟨mkRead (by omega) (by omega) hpd, (show (i : Int) ≤ ((y.i : Nat) : Int) by omega)⟩⟩, (show 1 < 100 - y.i by omega), trivial⟩⟩⟩⟩⟩⟩⟩))
              · intro h25
                have hpl := plan_at hpO (show 1 ≤ y.i by omega) (show y.i ≤ p.length by omega)
                have hpd := data_of hpl.1 hpl.2
                have hph := hash_in hpd
                refine ⟨?_, ?_, (And.intro rfl (And.intro (show (0 : Int) ≤ (at2 p (IntKind.i64.wrap ((↑y.i : Int) - (1 : Int)))).pl from (plan_at hpO (by omega) (by omega)).1) (show (at2 p (IntKind.i64.wrap ((↑y.i : Int) - (1 : Int)))).pl < (4 : Int) from (plan_at hpO (by omega) (by omega)).2))), (show y.rd.length ≤ 1000 by omega), (And.intro rfl hpd), ?_, ?_⟩
                · exact ⟨(by rw [wM (by omega)]; omega), (by rw [wM (by omega)]; omega)⟩
                · exact ⟨(by rw [wM (by omega)]; omega), (by rw [wM (by omega)]; omega)⟩
                · intro h26
                  replace h26 := of_decide_eq_true h26
                  first
                  | (exfalso; omega)
                  | (exact ⟨⟨y.n, y.i, y.rd, y.rs, y.ws, y.xi, y.a, y.c, y.bk, y.value, y.steps, y.asked, y.W, y.rows⟩, ⟨rfl, rfl, rfl, rfl, t39 ⟨rfl, rfl, rfl, rfl, rfl, t40 ⟨rfl, rfl, rfl, rfl, rfl, t44 ⟨rfl, rfl, rfl, rfl, ⟨(mkBW hB hnod), ⟨(show 1 ≤ y.i by omega), (show (i : Int) ≤ ((y.i : Nat) : Int) by omega)⟩⟩, (show 100 - (y.i) < 100 - y.i by omega), trivial⟩⟩⟩⟩⟩)
                · intro h27
                  replace h27 := of_decide_eq_false h27
                  first
                  | (exfalso; omega)
                  | (refine ⟨?_, ?_⟩
                     · intro h28
                       replace h28 := of_decide_eq_true h28
                       first
                       | (exfalso; omega)
                       | (exact ⟨⟨y.n, y.i, y.rd, y.rs, y.ws, y.xi, y.a, y.c, y.bk, y.value, y.steps, y.asked, y.W, y.rows⟩, ⟨rfl, rfl, rfl, rfl, t39 ⟨rfl, rfl, rfl, rfl, rfl, t40 ⟨rfl, rfl, rfl, rfl, rfl, t44 ⟨rfl, rfl, rfl, rfl, ⟨(mkBW hB hnod), ⟨(show 1 ≤ y.i by omega), (show (i : Int) ≤ ((y.i : Nat) : Int) by omega)⟩⟩, (show 100 - (y.i) < 100 - y.i by omega), trivial⟩⟩⟩⟩⟩)
                     · intro h29
                       replace h29 := of_decide_eq_false h29
                       first
                       | (exfalso; omega)
                       | (refine ⟨(And.intro (show y.ws.length ≤ 1000 by omega) (And.intro hpd rfl)), ?_, ?_⟩
                          · intro h30
                            have hf0 := of_decide_eq_true h30
                            have hf1 := find_ub hf0
                            refine ⟨?_, ?_, ?_, ?_⟩
                            · exact ⟨hf0, hf1⟩
                            · exact ⟨hf0, hf1⟩
                            · intro h31
                              replace h31 := of_decide_eq_true h31
                              first
                              | (exfalso; omega)
                              | (exact ⟨⟨y.n, y.i, y.rd, y.rs, y.ws.set (findT (Wr.mk (32 : Int) y.ws (filtT y.ws)).ls ((26 : Int) + (2 : Int) * (at2 p (IntKind.i64.wrap ((↑y.i : Int) - (1 : Int)))).pl)).toNat (Wo.mk (at3 y.ws (findT (Wr.mk (32 : Int) y.ws (filtT y.ws)).ls ((26 : Int) + (2 : Int) * (at2 p (IntKind.i64.wrap ((↑y.i : Int) - (1 : Int)))).pl))).pl (valT (Rl.mk y.rd).ls (Op.mk (at2 p (IntKind.i64.wrap ((↑y.i : Int) - (1 : Int)))).kd (at2 p (IntKind.i64.wrap ((↑y.i : Int) - (1 : Int)))).pl (at2 p (IntKind.i64.wrap ((↑y.i : Int) - (1 : Int)))).vl))), y.xi, y.a, y.c, y.bk, y.value, y.steps, y.asked, y.W, y.rows⟩, ⟨rfl, rfl, rfl, rfl, t39 ⟨rfl, rfl, rfl, (filt_same (set_pl hf0 hf1 _)), rfl, t40 ⟨rfl, t75 ⟨rfl, t5 ⟨rfl, rfl, rfl, rfl, ⟨(mkBW (mkBase hpO hc (by first | omega | (simp only [List.length_append, List.length_cons, List.length_nil, List.length_set]; omega)) (by first | omega | (simp only [List.length_append, List.length_cons, List.length_nil, List.length_set]; omega)) (by first | omega | (simp only [List.length_append, List.length_cons, List.length_nil, List.length_set]; omega)) (by first | omega | (simp only [List.length_append, List.length_cons, List.length_nil, List.length_set]; omega)) (mem_map (set_pl hf0 hf1 _) hwd) hrr) (nod_set hnod (set_pl hf0 hf1 _))), ⟨(show 1 ≤ y.i by omega), (show (i : Int) ≤ ((y.i : Nat) : Int) by omega)⟩⟩, (show 100 - (y.i) < 100 - y.i by omega), trivial⟩⟩⟩⟩⟩⟩)
                            · intro h32
                              replace h32 := of_decide_eq_false h32
                              first
                              | (exfalso; omega)
                              | (refine ⟨?_, ?_⟩
                                 · intro h33
                                   replace h33 := of_decide_eq_true h33
                                   first
                                   | (exfalso; omega)
                                   | (refine ⟨?_, ?_, ?_, ?_⟩
                                      · exact ⟨(by rw [wM (by omega)]; omega), (by rw [wM (by omega)]; omega)⟩
                                      · exact ⟨(by rw [wM (by omega)]; omega), (by rw [wM (by omega)]; omega)⟩
                                      · intro h34
                                        have hpl := plan_at hpO (show 1 ≤ y.i by omega) (show y.i ≤ p.length by omega)
                                        have hpd := data_of hpl.1 hpl.2
                                        have hph := hash_in hpd
                                        refine ⟨?_, ?_, (by simp only [List.length_cons, List.length_nil, tak_len] at *; first | omega | (have := rows_take rows hr8 xi (by omega); have := rows_len _ this; omega)), ?_⟩
                                        · exact ⟨(by rw [wM (by omega)]; omega), (by rw [wM (by omega)]; omega)⟩
                                        · exact ⟨(by rw [wM (by omega)]; omega), (by rw [wM (by omega)]; omega)⟩
                                        · exact ⟨⟨y.n, y.i + 1, y.rd ++ [Wo.mk (at2 p (IntKind.i64.wrap ((↑y.i : Int) - (1 : Int)))).pl y.value], y.rs, y.ws.set (findT (Wr.mk (32 : Int) y.ws (filtT y.ws)).ls ((26 : Int) + (2 : Int) * (at2 p (IntKind.i64.wrap ((↑y.i : Int) - (1 : Int)))).pl)).toNat (Wo.mk (at3 y.ws (findT (Wr.mk (32 : Int) y.ws (filtT y.ws)).ls ((26 : Int) + (2 : Int) * (at2 p (IntKind.i64.wrap ((↑y.i : Int) - (1 : Int)))).pl))).pl (valT (Rl.mk y.rd).ls (Op.mk (at2 p (IntKind.i64.wrap ((↑y.i : Int) - (1 : Int)))).kd (at2 p (IntKind.i64.wrap ((↑y.i : Int) - (1 : Int)))).pl (at2 p (IntKind.i64.wrap ((↑y.i : Int) - (1 : Int)))).vl))), y.xi, y.a, y.c, y.bk, y.value, y.steps, y.asked, y.W, y.rows⟩, ⟨rfl, rfl, rfl, rfl, t39 ⟨rfl, rfl, rfl, (filt_same (set_pl hf0 hf1 _)), rfl, t40 ⟨rfl, t75 ⟨rfl, t5 ⟨(wN (by omega)), rfl, rfl, rfl, ⟨(mkBW (mkBase hpO hc (by first | omega | (simp only [List.length_append, List.length_cons, List.length_nil, List.length_set]; omega)) (by first | omega | (simp only [List.length_append, List.length_cons, List.length_nil, List.length_set]; omega)) (by first | omega | (simp only [List.length_append, List.length_cons, List.length_nil, List.length_set]; omega)) (by first | omega | (simp only [List.length_append, List.length_cons, List.length_nil, List.length_set]; omega)) (mem_map (set_pl hf0 hf1 _) hwd) hrr) (nod_set hnod (set_pl hf0 hf1 _))), ⟨(show 1 ≤ y.i + 1 by omega), (show (i : Int) ≤ ((y.i + 1 : Nat) : Int) by omega)⟩⟩, (show 100 - (y.i + 1) < 100 - y.i by omega), trivial⟩⟩⟩⟩⟩⟩
                                      · intro h35
                                        have hpl := plan_at hpO (show 1 ≤ y.i by omega) (show y.i ≤ p.length by omega)
                                        have hpd := data_of hpl.1 hpl.2
                                        have hph := hash_in hpd
                                        exact ⟨⟨y.n, y.i + 1, y.rd, y.rs, y.ws.set (findT (Wr.mk (32 : Int) y.ws (filtT y.ws)).ls ((26 : Int) + (2 : Int) * (at2 p (IntKind.i64.wrap ((↑y.i : Int) - (1 : Int)))).pl)).toNat (Wo.mk (at3 y.ws (findT (Wr.mk (32 : Int) y.ws (filtT y.ws)).ls ((26 : Int) + (2 : Int) * (at2 p (IntKind.i64.wrap ((↑y.i : Int) - (1 : Int)))).pl))).pl (valT (Rl.mk y.rd).ls (Op.mk (at2 p (IntKind.i64.wrap ((↑y.i : Int) - (1 : Int)))).kd (at2 p (IntKind.i64.wrap ((↑y.i : Int) - (1 : Int)))).pl (at2 p (IntKind.i64.wrap ((↑y.i : Int) - (1 : Int)))).vl))), y.xi, y.a, y.c, y.bk, y.value, y.steps, y.asked, y.W, y.rows⟩, ⟨rfl, rfl, rfl, rfl, t39 ⟨rfl, rfl, rfl, (filt_same (set_pl hf0 hf1 _)), rfl, t40 ⟨rfl, t75 ⟨rfl, t5 ⟨(wN (by omega)), rfl, rfl, rfl, ⟨(mkBW (mkBase hpO hc (by first | omega | (simp only [List.length_append, List.length_cons, List.length_nil, List.length_set]; omega)) (by first | omega | (simp only [List.length_append, List.length_cons, List.length_nil, List.length_set]; omega)) (by first | omega | (simp only [List.length_append, List.length_cons, List.length_nil, List.length_set]; omega)) (by first | omega | (simp only [List.length_append, List.length_cons, List.length_nil, List.length_set]; omega)) (mem_map (set_pl hf0 hf1 _) hwd) hrr) (nod_set hnod (set_pl hf0 hf1 _))), ⟨(show 1 ≤ y.i + 1 by omega), (show (i : Int) ≤ ((y.i + 1 : Nat) : Int) by omega)⟩⟩, (show 100 - (y.i + 1) < 100 - y.i by omega), trivial⟩⟩⟩⟩⟩⟩)
                                 · intro h36
                                   replace h36 := of_decide_eq_false h36
                                   first
                                   | (exfalso; omega)
                                   | (exact ⟨⟨y.n, y.i + 1, y.rd, y.rs, y.ws.set (findT (Wr.mk (32 : Int) y.ws (filtT y.ws)).ls ((26 : Int) + (2 : Int) * (at2 p (IntKind.i64.wrap ((↑y.i : Int) - (1 : Int)))).pl)).toNat (Wo.mk (at3 y.ws (findT (Wr.mk (32 : Int) y.ws (filtT y.ws)).ls ((26 : Int) + (2 : Int) * (at2 p (IntKind.i64.wrap ((↑y.i : Int) - (1 : Int)))).pl))).pl (valT (Rl.mk y.rd).ls (Op.mk (at2 p (IntKind.i64.wrap ((↑y.i : Int) - (1 : Int)))).kd (at2 p (IntKind.i64.wrap ((↑y.i : Int) - (1 : Int)))).pl (at2 p (IntKind.i64.wrap ((↑y.i : Int) - (1 : Int)))).vl))), y.xi, y.a, y.c, y.bk, y.value, y.steps, y.asked, y.W, y.rows⟩, ⟨rfl, rfl, rfl, rfl, t39 ⟨rfl, rfl, rfl, (filt_same (set_pl hf0 hf1 _)), rfl, t40 ⟨rfl, t75 ⟨rfl, t5 ⟨(wN (by omega)), rfl, rfl, rfl, ⟨(mkBW (mkBase hpO hc (by first | omega | (simp only [List.length_append, List.length_cons, List.length_nil, List.length_set]; omega)) (by first | omega | (simp only [List.length_append, List.length_cons, List.length_nil, List.length_set]; omega)) (by first | omega | (simp only [List.length_append, List.length_cons, List.length_nil, List.length_set]; omega)) (by first | omega | (simp only [List.length_append, List.length_cons, List.length_nil, List.length_set]; omega)) (mem_map (set_pl hf0 hf1 _) hwd) hrr) (nod_set hnod (set_pl hf0 hf1 _))), ⟨(show 1 ≤ y.i + 1 by omega), (show (i : Int) ≤ ((y.i + 1 : Nat) : Int) by omega)⟩⟩, (show 100 - (y.i + 1) < 100 - y.i by omega), trivial⟩⟩⟩⟩⟩⟩))
                          · intro h37
                            have hno := no_find (of_decide_eq_false h37)
                            refine ⟨?_, ?_⟩
                            · intro h38
                              replace h38 := of_decide_eq_true h38
                              first
                              | (exfalso; omega)
                              | (exact ⟨⟨y.n, y.i, y.rd, y.rs, y.ws, y.xi, y.a, y.c, y.bk, y.value, y.steps, y.asked, y.W, y.rows⟩, ⟨rfl, rfl, rfl, rfl, t39 ⟨rfl, rfl, rfl, rfl, rfl, t40 ⟨rfl, rfl, rfl, rfl, rfl, t44 ⟨rfl, rfl, rfl, rfl, ⟨(mkBW hB hnod), ⟨(show 1 ≤ y.i by omega), (show (i : Int) ≤ ((y.i : Nat) : Int) by omega)⟩⟩, (show 100 - (y.i) < 100 - y.i by omega), trivial⟩⟩⟩⟩⟩)
                            · intro h39
                              replace h39 := of_decide_eq_false h39
                              first
                              | (exfalso; omega)
                              | (refine ⟨(by simp only [List.length_cons, List.length_nil, tak_len] at *; first | omega | (have := rows_take rows hr8 xi (by omega); have := rows_len _ this; omega)), hpd, ?_, ?_⟩
                                 · intro h40
                                   replace h40 := of_decide_eq_true h40
                                   first
                                   | (exfalso; omega)
                                   | (exact ⟨⟨y.n, y.i, y.rd, y.rs, y.ws ++ [Wo.mk ((26 : Int) + (2 : Int) * (at2 p (IntKind.i64.wrap ((↑y.i : Int) - (1 : Int)))).pl) (valT (Rl.mk y.rd).ls (Op.mk (at2 p (IntKind.i64.wrap ((↑y.i : Int) - (1 : Int)))).kd (at2 p (IntKind.i64.wrap ((↑y.i : Int) - (1 : Int)))).pl (at2 p (IntKind.i64.wrap ((↑y.i : Int) - (1 : Int)))).vl))], y.xi, y.a, y.c, y.bk, y.value, y.steps, y.asked, y.W, y.rows⟩, ⟨rfl, rfl, rfl, rfl, t39 ⟨rfl, rfl, rfl, (filt_or _ _ _ hpd rfl), rfl, t40 ⟨rfl, t75 ⟨rfl, t5 ⟨rfl, rfl, rfl, rfl, ⟨(mkBW (mkBase hpO hc (by first | omega | (simp only [List.length_append, List.length_cons, List.length_nil, List.length_set]; omega)) (by first | omega | (simp only [List.length_append, List.length_cons, List.length_nil, List.length_set]; omega)) (by first | omega | (simp only [List.length_append, List.length_cons, List.length_nil, List.length_set]; omega)) (by first | omega | (simp only [List.length_append, List.length_cons, List.length_nil, List.length_set]; omega)) (mem_snoc hwd hpd) hrr) (nod_snoc hnod hno)), ⟨(show 1 ≤ y.i by omega), (show (i : Int) ≤ ((y.i : Nat) : Int) by omega)⟩⟩, (show 100 - (y.i) < 100 - y.i by omega), trivial⟩⟩⟩⟩⟩⟩)
                                 · intro h41
                                   replace h41 := of_decide_eq_false h41
                                   first
                                   | (exfalso; omega)
                                   | (refine ⟨?_, ?_⟩
                                      · intro h42
                                        replace h42 := of_decide_eq_true h42
                                        first
                                        | (exfalso; omega)
                                        | (refine ⟨?_, ?_, ?_, ?_⟩
                                           · exact ⟨(by rw [wM (by omega)]; omega), (by rw [wM (by omega)]; omega)⟩
                                           · exact ⟨(by rw [wM (by omega)]; omega), (by rw [wM (by omega)]; omega)⟩
                                           · intro h43
                                             have hpl := plan_at hpO (show 1 ≤ y.i by omega) (show y.i ≤ p.length by omega)
                                             have hpd := data_of hpl.1 hpl.2
                                             have hph := hash_in hpd
                                             refine ⟨?_, ?_, (by simp only [List.length_cons, List.length_nil, tak_len] at *; first | omega | (have := rows_take rows hr8 xi (by omega); have := rows_len _ this; omega)), ?_⟩
                                             · exact ⟨(by rw [wM (by omega)]; omega), (by rw [wM (by omega)]; omega)⟩
                                             · exact ⟨(by rw [wM (by omega)]; omega), (by rw [wM (by omega)]; omega)⟩
                                             · exact ⟨⟨y.n, y.i + 1, y.rd ++ [Wo.mk (at2 p (IntKind.i64.wrap ((↑y.i : Int) - (1 : Int)))).pl y.value], y.rs, y.ws ++ [Wo.mk ((26 : Int) + (2 : Int) * (at2 p (IntKind.i64.wrap ((↑y.i : Int) - (1 : Int)))).pl) (valT (Rl.mk y.rd).ls (Op.mk (at2 p (IntKind.i64.wrap ((↑y.i : Int) - (1 : Int)))).kd (at2 p (IntKind.i64.wrap ((↑y.i : Int) - (1 : Int)))).pl (at2 p (IntKind.i64.wrap ((↑y.i : Int) - (1 : Int)))).vl))], y.xi, y.a, y.c, y.bk, y.value, y.steps, y.asked, y.W, y.rows⟩, ⟨rfl, rfl, rfl, rfl, t39 ⟨rfl, rfl, rfl, (filt_or _ _ _ hpd rfl), rfl, t40 ⟨rfl, t75 ⟨rfl, t5 ⟨(wN (by omega)), rfl, rfl, rfl, ⟨(mkBW (mkBase hpO hc (by first | omega | (simp only [List.length_append, List.length_cons, List.length_nil, List.length_set]; omega)) (by first | omega | (simp only [List.length_append, List.length_cons, List.length_nil, List.length_set]; omega)) (by first | omega | (simp only [List.length_append, List.length_cons, List.length_nil, List.length_set]; omega)) (by first | omega | (simp only [List.length_append, List.length_cons, List.length_nil, List.length_set]; omega)) (mem_snoc hwd hpd) hrr) (nod_snoc hnod hno)), ⟨(show 1 ≤ y.i + 1 by omega), (show (i : Int) ≤ ((y.i + 1 : Nat) : Int) by omega)⟩⟩, (show 100 - (y.i + 1) < 100 - y.i by omega), trivial⟩⟩⟩⟩⟩⟩
                                           · intro h44
                                             have hpl := plan_at hpO (show 1 ≤ y.i by omega) (show y.i ≤ p.length by omega)
                                             have hpd := data_of hpl.1 hpl.2
                                             have hph := hash_in hpd
                                             exact ⟨⟨y.n, y.i + 1, y.rd, y.rs, y.ws ++ [Wo.mk ((26 : Int) + (2 : Int) * (at2 p (IntKind.i64.wrap ((↑y.i : Int) - (1 : Int)))).pl) (valT (Rl.mk y.rd).ls (Op.mk (at2 p (IntKind.i64.wrap ((↑y.i : Int) - (1 : Int)))).kd (at2 p (IntKind.i64.wrap ((↑y.i : Int) - (1 : Int)))).pl (at2 p (IntKind.i64.wrap ((↑y.i : Int) - (1 : Int)))).vl))], y.xi, y.a, y.c, y.bk, y.value, y.steps, y.asked, y.W, y.rows⟩, ⟨rfl, rfl, rfl, rfl, t39 ⟨rfl, rfl, rfl, (filt_or _ _ _ hpd rfl), rfl, t40 ⟨rfl, t75 ⟨rfl, t5 ⟨(wN (by omega)), rfl, rfl, rfl, ⟨(mkBW (mkBase hpO hc (by first | omega | (simp only [List.length_append, List.length_cons, List.length_nil, List.length_set]; omega)) (by first | omega | (simp only [List.length_append, List.length_cons, List.length_nil, List.length_set]; omega)) (by first | omega | (simp only [List.length_append, List.length_cons, List.length_nil, List.length_set]; omega)) (by first | omega | (simp only [List.length_append, List.length_cons, List.length_nil, List.length_set]; omega)) (mem_snoc hwd hpd) hrr) (nod_snoc hnod hno)), ⟨(show 1 ≤ y.i + 1 by omega), (show (i : Int) ≤ ((y.i + 1 : Nat) : Int) by omega)⟩⟩, (show 100 - (y.i + 1) < 100 - y.i by omega), trivial⟩⟩⟩⟩⟩⟩)
                                      · intro h45
                                        replace h45 := of_decide_eq_false h45
                                        first
                                        | (exfalso; omega)
                                        | (exact ⟨⟨y.n, y.i + 1, y.rd, y.rs, y.ws ++ [Wo.mk ((26 : Int) + (2 : Int) * (at2 p (IntKind.i64.wrap ((↑y.i : Int) - (1 : Int)))).pl) (valT (Rl.mk y.rd).ls (Op.mk (at2 p (IntKind.i64.wrap ((↑y.i : Int) - (1 : Int)))).kd (at2 p (IntKind.i64.wrap ((↑y.i : Int) - (1 : Int)))).pl (at2 p (IntKind.i64.wrap ((↑y.i : Int) - (1 : Int)))).vl))], y.xi, y.a, y.c, y.bk, y.value, y.steps, y.asked, y.W, y.rows⟩, ⟨rfl, rfl, rfl, rfl, t39 ⟨rfl, rfl, rfl, (filt_or _ _ _ hpd rfl), rfl, t40 ⟨rfl, t75 ⟨rfl, t5 ⟨(wN (by omega)), rfl, rfl, rfl, ⟨(mkBW (mkBase hpO hc (by first | omega | (simp only [List.length_append, List.length_cons, List.length_nil, List.length_set]; omega)) (by first | omega | (simp only [List.length_append, List.length_cons, List.length_nil, List.length_set]; omega)) (by first | omega | (simp only [List.length_append, List.length_cons, List.length_nil, List.length_set]; omega)) (by first | omega | (simp only [List.length_append, List.length_cons, List.length_nil, List.length_set]; omega)) (mem_snoc hwd hpd) hrr) (nod_snoc hnod hno)), ⟨(show 1 ≤ y.i + 1 by omega), (show (i : Int) ≤ ((y.i + 1 : Nat) : Int) by omega)⟩⟩, (show 100 - (y.i + 1) < 100 - y.i by omega), trivial⟩⟩⟩⟩⟩⟩)))))))
  · intro y
    intro h46
    obtain ⟨⟨⟨hpO, hc, hi, hrd, hrs, hws, hwd, hrr⟩, hnod⟩, hI⟩ := h46
    have hB : ∀ {n xi : Nat} {a bk value steps asked : Int} {W rows : List Int}, baseI p ⟨n, y.i, y.rd, y.rs, y.ws, xi, a, y.c, bk, value, steps, asked, W, rows⟩ := mkBase hpO hc hi hrd hrs hws hwd hrr
    obtain ⟨⟨h1, h2, hd⟩, hi0⟩ := hI
    have hi0 : (i : Int) ≤ (y.i : Int) := hi0
    have hd : isData y.a := hd
    have hh := hash_in hd
    refine ⟨rfl, ?_, ?_⟩
    · intro h47
      exact absurd ((show decide ((↑(wV (↑n : Int) (0 : Int) (0 : Int) (0 : Int) (0 : Int) (0 : Int)).length : Int) < (34 : Int)) = false by kernel_rfl).symm.trans h47) (by decide)
    · intro h48
      replace h48 := of_decide_eq_false h48
      first
      | (exfalso; omega)
      | (refine ⟨(And.intro rfl (And.intro (show (0 : Int) ≤ hashT y.a from hh.1) (show hashT y.a < (3 : Int) from hh.2))), (And.intro (show (0 : Int) ≤ (2 : Int) + hashT y.a from (by have := hh.1; omega)) (show (2 : Int) + hashT y.a < ((Mw.mk (wV (↑n : Int) (0 : Int) (0 : Int) (0 : Int) (0 : Int) (0 : Int))).ws.length : Int) from (show _ < (34 : Int) by have := hh.2; omega))), ?_, ?_, (And.intro (show at0 (wV (↑n : Int) (0 : Int) (0 : Int) (0 : Int) (0 : Int) (0 : Int)) ((2 : Int) + hashT y.a) = 0 from wV_s _ hh.1 hh.2) (Int.le_refl 0)), ?_⟩
         · exact ⟨(by have := hh.1; omega), (show _ < (34 : Int) by have := hh.2; omega)⟩
         · exact ⟨(by have := hh.1; omega), (show _ < (34 : Int) by have := hh.2; omega)⟩
         · exact ⟨⟨n, y.i, y.rd, y.rs, y.ws, y.xi, y.a, y.c, y.bk, y.value, IntKind.i64.wrap (y.steps + (1 : Int)), y.asked, y.W, y.rows⟩, ⟨rfl, rfl, rfl, rfl, t2 ⟨rfl, rfl, rfl, rfl, rfl, t40 ⟨rfl, t78 ⟨rfl, rfl, (congrArg (AVal.int IntKind.i64) (wV_s _ hh.1 hh.2)), rfl, t5 ⟨rfl, t16 ⟨rfl, ⟨trivial, ⟨(mkBW hB hnod), mkRead (by omega) (by omega) hd⟩, rfl, (show 59 + 5 * (10 - y.i) < 60 + 5 * (10 - i) by omega)⟩, trivial⟩⟩⟩⟩⟩⟩⟩)
  · intro y
    intro h49
    obtain ⟨⟨⟨hpO, hc, hi, hrd, hrs, hws, hwd, hrr⟩, hnod⟩, hI⟩ := h49
    have hB : ∀ {n xi : Nat} {a bk value steps asked : Int} {W rows : List Int}, baseI p ⟨n, y.i, y.rd, y.rs, y.ws, xi, a, y.c, bk, value, steps, asked, W, rows⟩ := mkBase hpO hc hi hrd hrs hws hwd hrr
    have he : y.i = p.length + 1 := hI
    refine ⟨rfl, ?_, ?_⟩
    · intro h50
      exact absurd ((show decide ((↑(wV (↑n : Int) (0 : Int) (0 : Int) (0 : Int) (0 : Int) (0 : Int)).length : Int) < (34 : Int)) = false by kernel_rfl).symm.trans h50) (by decide)
    · intro h51
      replace h51 := of_decide_eq_false h51
      first
      | (exfalso; omega)
      | (refine ⟨(And.intro rfl (And.intro rfl rfl)), (And.intro (show (0 : Int) ≤ (13 : Int) from (by decide)) (show (13 : Int) < ((Mw.mk (wV (↑n : Int) (0 : Int) (0 : Int) (0 : Int) (0 : Int) (0 : Int))).ws.length : Int) from (show _ < ((34 : Nat) : Int) by decide))), ?_, ?_, ?_, ?_, ?_, ?_⟩
         · exact ⟨(by decide), (show _ < ((34 : Nat) : Int) by decide)⟩
         · exact ⟨(by decide), (show _ < ((34 : Nat) : Int) by decide)⟩
         · exact ⟨(by decide), (show _ < ((34 : Nat) : Int) by decide)⟩
         · exact ⟨(by decide), (show _ < ((34 : Nat) : Int) by decide)⟩
         · intro h52
           replace h52 := of_decide_eq_true h52
           first
           | (exfalso; omega)
           | (refine ⟨(show y.ws.length * (16 : Nat) ≤ (140737488355328 : Nat) by omega), (show y.ws.length ≤ 1000 by omega), (And.intro rfl (And.intro (show (List.map (fun (x : Wo) => x.pl) y.ws).length ≤ 1000 by rw [List.length_map]; omega) (fun x hx => by obtain ⟨q, hq, rfl⟩ := List.mem_map.1 hx; exact hwd q hq))), ?_, ?_⟩
              · intro h53
                replace h53 := eq_of_beq h53
                first
                | (exfalso; omega)
                | (refine ⟨?_, ?_⟩
                   · intro h54
                     replace h54 := of_decide_eq_true h54
                     first
                     | (exfalso; omega)
                     | (have hpos := rows_pos hwd (show 0 < y.ws.length by omega)
                        exfalso; omega)
                   · intro h55
                     replace h55 := of_decide_eq_false h55
                     first
                     | (exfalso; omega)
                     | (exact ⟨⟨n, y.i, y.rd, y.rs, y.ws, 0, y.a, y.c, (1 : Int), y.value, IntKind.i64.wrap (y.steps + (1 : Int)), y.asked, y.W, rowsT (List.map (fun (x : Wo) => x.pl) y.ws)⟩, ⟨rfl, rfl, rfl, rfl, t2 ⟨rfl, rfl, rfl, rfl, rfl, t40 ⟨rfl, t55 ⟨rfl, rfl, t19 ⟨rfl, t20 ⟨rfl, rfl, rfl, rfl, t16 ⟨rfl, ⟨trivial, ⟨⟨(mkBW hB hnod), ⟨(show y.i = p.length + 1 by omega), (fun e => absurd (congrArg List.length (show y.ws = [] from e)) (by simp only [List.length_nil]; omega)), rfl, (.inl rfl)⟩, (show 0 < (rowsT (List.map (fun (x : Wo) => x.pl) y.ws)).length by omega)⟩, rfl⟩, rfl, (show 55 - 2 * 0 < 60 + 5 * (10 - i) by omega)⟩, trivial⟩⟩⟩⟩⟩⟩⟩⟩))
              · intro h56
                replace h56 := ne_of_beq_false h56
                first
                | (exfalso; omega)
                | (refine ⟨?_, ?_⟩
                   · intro h57
                     replace h57 := eq_of_beq h57
                     first
                     | (exfalso; omega)
                     | (refine ⟨?_, ?_⟩
                        · intro h58
                          replace h58 := of_decide_eq_true h58
                          first
                          | (exfalso; omega)
                          | (have hpos := rows_pos hwd (show 0 < y.ws.length by omega)
                             exfalso; omega)
                        · intro h59
                          replace h59 := of_decide_eq_false h59
                          first
                          | (exfalso; omega)
                          | (exact ⟨⟨n, y.i, y.rd, y.rs, y.ws, 0, y.a, y.c, (2 : Int), y.value, IntKind.i64.wrap (y.steps + (1 : Int)), y.asked, y.W, rowsT (List.map (fun (x : Wo) => x.pl) y.ws)⟩, ⟨rfl, rfl, rfl, rfl, t2 ⟨rfl, rfl, rfl, rfl, rfl, t40 ⟨rfl, t55 ⟨rfl, rfl, t19 ⟨rfl, t20 ⟨rfl, rfl, rfl, rfl, t16 ⟨rfl, ⟨trivial, ⟨⟨(mkBW hB hnod), ⟨(show y.i = p.length + 1 by omega), (fun e => absurd (congrArg List.length (show y.ws = [] from e)) (by simp only [List.length_nil]; omega)), rfl, (.inr rfl)⟩, (show 0 < (rowsT (List.map (fun (x : Wo) => x.pl) y.ws)).length by omega)⟩, rfl⟩, rfl, (show 55 - 2 * 0 < 60 + 5 * (10 - i) by omega)⟩, trivial⟩⟩⟩⟩⟩⟩⟩⟩))
                   · intro h60
                     replace h60 := ne_of_beq_false h60
                     first
                     | (exfalso; omega)
                     | (refine ⟨?_, ?_⟩
                        · intro h61
                          replace h61 := of_decide_eq_true h61
                          first
                          | (exfalso; omega)
                          | (have hpos := rows_pos hwd (show 0 < y.ws.length by omega)
                             exfalso; omega)
                        · intro h62
                          replace h62 := of_decide_eq_false h62
                          first
                          | (exfalso; omega)
                          | (exact ⟨⟨n, y.i, y.rd, y.rs, y.ws, 0, y.a, y.c, (0 : Int), y.value, IntKind.i64.wrap (y.steps + (1 : Int)), y.asked, y.W, rowsT (List.map (fun (x : Wo) => x.pl) y.ws)⟩, ⟨rfl, rfl, rfl, rfl, t2 ⟨rfl, rfl, rfl, rfl, rfl, t40 ⟨rfl, t55 ⟨rfl, rfl, t19 ⟨rfl, t20 ⟨rfl, rfl, rfl, rfl, t16 ⟨rfl, ⟨trivial, ⟨⟨(mkBW hB hnod), ⟨(show y.i = p.length + 1 by omega), (fun e => absurd (congrArg List.length (show y.ws = [] from e)) (by simp only [List.length_nil]; omega)), rfl, hbk⟩, (show 0 < (rowsT (List.map (fun (x : Wo) => x.pl) y.ws)).length by omega)⟩, rfl⟩, rfl, (show 55 - 2 * 0 < 60 + 5 * (10 - i) by omega)⟩, trivial⟩⟩⟩⟩⟩⟩⟩⟩))))
         · intro h63
           replace h63 := of_decide_eq_false h63
           first
           | (exfalso; omega)
           | (have hws0 : y.ws = [] := List.eq_nil_of_length_eq_zero (by omega)
              refine ⟨?_, ?_⟩
              · intro h64
                simp only [decide_eq_true_eq, decide_eq_false_iff_not, beq_iff_eq, beq_eq_false_iff_ne, ne_eq, gt_iff_lt, ge_iff_le, tak_len] at h64
                first
                | (exfalso; omega)
                | (exact ⟨⟨n, y.i, y.rd, y.rs, y.ws, y.xi, (0 : Int), y.c, y.bk, y.value, IntKind.i64.wrap (y.steps + (1 : Int)), y.asked, y.W, []⟩, ⟨rfl, rfl, rfl, rfl, t2 ⟨rfl, rfl, rfl, rfl, rfl, t40 ⟨rfl, t79 ⟨rfl, rfl, t80 ⟨rfl, rfl, t16 ⟨rfl, ⟨trivial, ⟨⟨(mkBW hB hnod), (show y.i = p.length + 1 by omega), (show [] = rowsT (y.ws.map (·.pl)) by rw [hws0]; rfl), (fun h => absurd hws0 h)⟩, hws0⟩, rfl, (show 30 < 60 + 5 * (10 - i) by omega)⟩, trivial⟩⟩⟩⟩⟩⟩⟩)
              · intro h65
                cases h65))
  · exact ⟨⟨n, i, rd, rs, ws, xi, a, c, bk, value, steps, asked, W, rows⟩, ⟨rfl, rfl, rfl, rfl, t39 ⟨rfl, rfl, rfl, rfl, rfl, t40 ⟨rfl, t75 ⟨rfl, t5 ⟨rfl, t46 ⟨rfl, ⟨(mkBW hB hnod), ⟨(show 1 ≤ i by omega), (show (i : Int) ≤ ((i : Nat) : Int) by omega)⟩⟩, trivial⟩⟩⟩⟩⟩⟩⟩
end Go.Proofs.Ytmjjljngaefpaaa

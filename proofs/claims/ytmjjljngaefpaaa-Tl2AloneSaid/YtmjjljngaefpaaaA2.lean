/- Tl2Alone: its loops, one step each. -/
import Derived.Test.YtmjjljngaefpaaaAf
namespace Go.Proofs.Ytmjjljngaefpaaa
open Go.RowKit Go.Am Go.Sy
set_option linter.unusedVariables false
set_option linter.unusedSimpArgs false
variable (l p : List Op) (cl : Int) (n i : Nat) (rd rs ws : List Wo) (xi : Nat) (a c bk value steps asked : Int) (W rows : List Int)
theorem al_k3 : Go.Sy.Tree.holds (cA l p cl 18 (q3 p) ⟨n, i, rd, rs, ws, xi, a, c, bk, value, steps, asked, W, rows⟩) = ( (decide ((↑n : Int) < 200) = true → (∀ (y : (nz0 p (↑i : Int)).St), (nz0 p (↑i : Int)).I y →
 (((↑y.i : Int) == 0) = true → ∃ (s : (nz0 p (↑i : Int)).St), p = p ∧ y.rs = s.rs ∧ w0 = w0 ∧ Z39 (y.steps = s.steps ∧ Q 32 ∧ y.ws = s.ws ∧ filtT y.ws = filtT s.ws ∧ y.asked = s.asked ∧ Z40 (y.c = s.c ∧ Z41 (y.value =
 s.value ∧ Z5 ((↑y.i : Int) = (↑s.i : Int) ∧ Qb false ∧ constA (Value.int IntKind.i64 (2 : Int)) = AVal.int IntKind.i64 0 ∧ y.rd = s.rd ∧ (nz0 p (↑i : Int)).I s ∧ (nz0 p (↑i : Int)).m s < (nz0 p (↑i : Int)).m y ∧
 True))))) ∧ (((↑y.i : Int) == 0) = false → (decide ((↑y.i : Int) > (↑p.length : Int)) = true → ∃ (s : (nz2 p).St), p = p ∧ y.rs = s.rs ∧ w0 = w0 ∧ Z39 (y.steps = s.steps ∧ Q 32 ∧ y.ws = s.ws ∧ filtT y.ws = filtT s.ws ∧
 y.asked = s.asked ∧ Z40 (y.c = s.c ∧ Z42 (y.value = s.value ∧ Z5 ((↑y.i : Int) = (↑s.i : Int) ∧ Z16 (y.rd = s.rd ∧ (nz2 p).I s ∧ (nz2 p).m s < (nz0 p (↑i : Int)).m y ∧ True)))))) ∧ (decide ((↑y.i : Int) > (↑p.length :
 Int)) = false → Bi y.i p ∧ Bi y.i p ∧ (((at2 p (IntKind.i64.wrap ((↑y.i : Int) - 1))).kd == 0) = true → Bi y.i p ∧ Bi y.i p ∧ dataD.pre (mp1, (at2 p (IntKind.i64.wrap ((↑y.i : Int) - 1))).pl, ()) ∧ (decide ((26 : Int) +
 2 * (at2 p (IntKind.i64.wrap ((↑y.i : Int) - 1))).pl < 0) = true → hashD.pre (mp1, (26 : Int) + 2 * (at2 p (IntKind.i64.wrap ((↑y.i : Int) - 1))).pl, ()) ∧ (decide (hashT ((26 : Int) + 2 * (at2 p (IntKind.i64.wrap ((↑y.i
 : Int) - 1))).pl) < 0) = true → ∃ (s : (nz0 p (↑i : Int)).St), p = p ∧ y.rs = s.rs ∧ w0 = w0 ∧ Z39 (y.steps = s.steps ∧ Q 32 ∧ y.ws = s.ws ∧ filtT y.ws = filtT s.ws ∧ y.asked = s.asked ∧ Z40 (y.c = s.c ∧ Z43 (constA
 (Value.int IntKind.i64 (3 : Int)) = AVal.int IntKind.i64 1 ∧ Qc 0 ∧ y.value = s.value ∧ Z44 ((↑y.i : Int) = (↑s.i : Int) ∧ Qb false ∧ constA (Value.int IntKind.i64 (2 : Int)) = AVal.int IntKind.i64 0 ∧ y.rd = s.rd ∧ (nz0
 p (↑i : Int)).I s ∧ (nz0 p (↑i : Int)).m s < (nz0 p (↑i : Int)).m y ∧ True))))) ∧ (decide (hashT ((26 : Int) + 2 * (at2 p (IntKind.i64.wrap ((↑y.i : Int) - 1))).pl) < 0) = false → roomD.pre (Rs.mk (32 : Int) y.rs, hashT
 ((26 : Int) + 2 * (at2 p (IntKind.i64.wrap ((↑y.i : Int) - 1))).pl), ()) ∧ ∃ (s : (nz1 p (↑i : Int)).St), p = p ∧ y.rs = s.rs ∧ w0 = w0 ∧ Z39 (y.steps = s.steps ∧ Q 32 ∧ y.ws = s.ws ∧ filtT y.ws = filtT s.ws ∧ y.asked =
 s.asked ∧ Z40 (y.c = s.c ∧ Z45 ((26 : Int) + 2 * (at2 p (IntKind.i64.wrap ((↑y.i : Int) - 1))).pl = s.a ∧ hashT ((26 : Int) + 2 * (at2 p (IntKind.i64.wrap ((↑y.i : Int) - 1))).pl) = hashT s.a ∧ y.value = s.value ∧ Z5
 ((↑y.i : Int) = (↑s.i : Int) ∧ Z16 (y.rd = s.rd ∧ (nz1 p (↑i : Int)).I s ∧ (nz1 p (↑i : Int)).m s < (nz0 p (↑i : Int)).m y ∧ True))))))) ∧ (decide ((26 : Int) + 2 * (at2 p (IntKind.i64.wrap ((↑y.i : Int) - 1))).pl < 0) =
 false → bitD.pre ((26 : Int) + 2 * (at2 p (IntKind.i64.wrap ((↑y.i : Int) - 1))).pl, ()) ∧ ((IntKind.u64.wrap (↑(BitVec.ofInt IntKind.u64.bits (filtT y.ws) &&& BitVec.ofInt IntKind.u64.bits (bitT ((26 : Int) + 2 * (at2 p
 (IntKind.i64.wrap ((↑y.i : Int) - 1))).pl))).toNat : Int) == 0) = true → hashD.pre (mp1, (26 : Int) + 2 * (at2 p (IntKind.i64.wrap ((↑y.i : Int) - 1))).pl, ()) ∧ (decide (hashT ((26 : Int) + 2 * (at2 p (IntKind.i64.wrap
 ((↑y.i : Int) - 1))).pl) < 0) = true → ∃ (s : (nz0 p (↑i : Int)).St), p = p ∧ y.rs = s.rs ∧ w0 = w0 ∧ Z39 (y.steps = s.steps ∧ Q 32 ∧ y.ws = s.ws ∧ filtT y.ws = filtT s.ws ∧ y.asked = s.asked ∧ Z40 (y.c = s.c ∧ Z43
 (constA (Value.int IntKind.i64 (3 : Int)) = AVal.int IntKind.i64 1 ∧ Qc 0 ∧ y.value = s.value ∧ Z44 ((↑y.i : Int) = (↑s.i : Int) ∧ Qb false ∧ constA (Value.int IntKind.i64 (2 : Int)) = AVal.int IntKind.i64 0 ∧ y.rd =
 s.rd ∧ (nz0 p (↑i : Int)).I s ∧ (nz0 p (↑i : Int)).m s < (nz0 p (↑i : Int)).m y ∧ True))))) ∧ (decide (hashT ((26 : Int) + 2 * (at2 p (IntKind.i64.wrap ((↑y.i : Int) - 1))).pl) < 0) = false → roomD.pre (Rs.mk (32 : Int)
 y.rs, hashT ((26 : Int) + 2 * (at2 p (IntKind.i64.wrap ((↑y.i : Int) - 1))).pl), ()) ∧ ∃ (s : (nz1 p (↑i : Int)).St), p = p ∧ y.rs = s.rs ∧ w0 = w0 ∧ Z39 (y.steps = s.steps ∧ Q 32 ∧ y.ws = s.ws ∧ filtT y.ws = filtT s.ws
 ∧ y.asked = s.asked ∧ Z40 (y.c = s.c ∧ Z45 ((26 : Int) + 2 * (at2 p (IntKind.i64.wrap ((↑y.i : Int) - 1))).pl = s.a ∧ hashT ((26 : Int) + 2 * (at2 p (IntKind.i64.wrap ((↑y.i : Int) - 1))).pl) = hashT s.a ∧ y.value =
 s.value ∧ Z5 ((↑y.i : Int) = (↑s.i : Int) ∧ Z16 (y.rd = s.rd ∧ (nz1 p (↑i : Int)).I s ∧ (nz1 p (↑i : Int)).m s < (nz0 p (↑i : Int)).m y ∧ True))))))) ∧ ((IntKind.u64.wrap (↑(BitVec.ofInt IntKind.u64.bits (filtT y.ws) &&&
 BitVec.ofInt IntKind.u64.bits (bitT ((26 : Int) + 2 * (at2 p (IntKind.i64.wrap ((↑y.i : Int) - 1))).pl))).toNat : Int) == 0) = false → findD.pre (Wr.mk (32 : Int) y.ws (filtT y.ws), (26 : Int) + 2 * (at2 p
 (IntKind.i64.wrap ((↑y.i : Int) - 1))).pl, ()) ∧ (decide (findT (Wr.mk (32 : Int) y.ws (filtT y.ws)).ls ((26 : Int) + 2 * (at2 p (IntKind.i64.wrap ((↑y.i : Int) - 1))).pl) ≥ (0 : Int)) = true → ((0 : Int) ≤ findT (Wr.mk
 (32 : Int) y.ws (filtT y.ws)).ls ((26 : Int) + 2 * (at2 p (IntKind.i64.wrap ((↑y.i : Int) - 1))).pl) ∧ findT (Wr.mk (32 : Int) y.ws (filtT y.ws)).ls ((26 : Int) + 2 * (at2 p (IntKind.i64.wrap ((↑y.i : Int) - 1))).pl) <
 (↑y.ws.length : Int)) ∧ ((0 : Int) ≤ findT (Wr.mk (32 : Int) y.ws (filtT y.ws)).ls ((26 : Int) + 2 * (at2 p (IntKind.i64.wrap ((↑y.i : Int) - 1))).pl) ∧ findT (Wr.mk (32 : Int) y.ws (filtT y.ws)).ls ((26 : Int) + 2 *
 (at2 p (IntKind.i64.wrap ((↑y.i : Int) - 1))).pl) < (↑y.ws.length : Int)) ∧ (decide ((↑y.i : Int) > (↑p.length : Int)) = true → ∃ (s : (nz0 p (↑i : Int)).St), p = p ∧ y.rs = s.rs ∧ w0 = w0 ∧ Z39 (y.steps = s.steps ∧ Q 32
 ∧ y.ws = s.ws ∧ filtT y.ws = filtT s.ws ∧ IntKind.i64.wrap (y.asked + 1) = s.asked ∧ Z40 (y.c = s.c ∧ Z41 ((at3 y.ws (findT (Wr.mk (32 : Int) y.ws (filtT y.ws)).ls ((26 : Int) + 2 * (at2 p (IntKind.i64.wrap ((↑y.i : Int)
 - 1))).pl))).vl = s.value ∧ Z5 ((↑y.i : Int) = (↑s.i : Int) ∧ constA (Value.bool false) = AVal.bool false ∧ constA (Value.int IntKind.i64 (1 : Int)) = AVal.int IntKind.i64 0 ∧ y.rd = s.rd ∧ (nz0 p (↑i : Int)).I s ∧ (nz0
 p (↑i : Int)).m s < (nz0 p (↑i : Int)).m y ∧ True))))) ∧ (decide ((↑y.i : Int) > (↑p.length : Int)) = false → (decide ((↑y.i : Int) > 0) = true → Bi y.i p ∧ Bi y.i p ∧ (((at2 p (IntKind.i64.wrap ((↑y.i : Int) - 1))).kd
 == 0) = true → Bi y.i p ∧ Bi y.i p ∧ (y.rd.length + [Wo.mk (at2 p (IntKind.i64.wrap ((↑y.i : Int) - 1))).pl (at3 y.ws (findT (Wr.mk (32 : Int) y.ws (filtT y.ws)).ls ((26 : Int) + 2 * (at2 p (IntKind.i64.wrap ((↑y.i :
 Int) - 1))).pl))).vl].length) * 16 ≤ 140737488355328 ∧ ∃ (s : (nz0 p (↑i : Int)).St), p = p ∧ y.rs = s.rs ∧ w0 = w0 ∧ Z39 (y.steps = s.steps ∧ Q 32 ∧ y.ws = s.ws ∧ filtT y.ws = filtT s.ws ∧ IntKind.i64.wrap (y.asked + 1)
 = s.asked ∧ Z40 (y.c = s.c ∧ Z41 ((at3 y.ws (findT (Wr.mk (32 : Int) y.ws (filtT y.ws)).ls ((26 : Int) + 2 * (at2 p (IntKind.i64.wrap ((↑y.i : Int) - 1))).pl))).vl = s.value ∧ Z5 (IntKind.i64.wrap ((↑y.i : Int) + 1) =
 (↑s.i : Int) ∧ constA (Value.bool false) = AVal.bool false ∧ Q 0 ∧ y.rd ++ [Wo.mk (at2 p (IntKind.i64.wrap ((↑y.i : Int) - 1))).pl (at3 y.ws (findT (Wr.mk (32 : Int) y.ws (filtT y.ws)).ls ((26 : Int) + 2 * (at2 p
 (IntKind.i64.wrap ((↑y.i : Int) - 1))).pl))).vl] = s.rd ∧ (nz0 p (↑i : Int)).I s ∧ (nz0 p (↑i : Int)).m s < (nz0 p (↑i : Int)).m y ∧ True))))) ∧ (((at2 p (IntKind.i64.wrap ((↑y.i : Int) - 1))).kd == 0) = false → ∃ (s :
 (nz0 p (↑i : Int)).St), p = p ∧ y.rs = s.rs ∧ w0 = w0 ∧ Z39 (y.steps = s.steps ∧ Q 32 ∧ y.ws = s.ws ∧ filtT y.ws = filtT s.ws ∧ IntKind.i64.wrap (y.asked + 1) = s.asked ∧ Z40 (y.c = s.c ∧ Z41 ((at3 y.ws (findT (Wr.mk (32
 : Int) y.ws (filtT y.ws)).ls ((26 : Int) + 2 * (at2 p (IntKind.i64.wrap ((↑y.i : Int) - 1))).pl))).vl = s.value ∧ Z5 (IntKind.i64.wrap ((↑y.i : Int) + 1) = (↑s.i : Int) ∧ constA (Value.bool false) = AVal.bool false ∧ Q 0
 ∧ y.rd = s.rd ∧ (nz0 p (↑i : Int)).I s ∧ (nz0 p (↑i : Int)).m s < (nz0 p (↑i : Int)).m y ∧ True)))))) ∧ (decide ((↑y.i : Int) > 0) = false → ∃ (s : (nz0 p (↑i : Int)).St), p = p ∧ y.rs = s.rs ∧ w0 = w0 ∧ Z39 (y.steps =
 s.steps ∧ Q 32 ∧ y.ws = s.ws ∧ filtT y.ws = filtT s.ws ∧ IntKind.i64.wrap (y.asked + 1) = s.asked ∧ Z40 (y.c = s.c ∧ Z41 ((at3 y.ws (findT (Wr.mk (32 : Int) y.ws (filtT y.ws)).ls ((26 : Int) + 2 * (at2 p
 (IntKind.i64.wrap ((↑y.i : Int) - 1))).pl))).vl = s.value ∧ Z5 (IntKind.i64.wrap ((↑y.i : Int) + 1) = (↑s.i : Int) ∧ constA (Value.bool false) = AVal.bool false ∧ Q 0 ∧ y.rd = s.rd ∧ (nz0 p (↑i : Int)).I s ∧ (nz0 p (↑i :
 Int)).m s < (nz0 p (↑i : Int)).m y ∧ True))))))) ∧ (decide (findT (Wr.mk (32 : Int) y.ws (filtT y.ws)).ls ((26 : Int) + 2 * (at2 p (IntKind.i64.wrap ((↑y.i : Int) - 1))).pl) ≥ (0 : Int)) = false → hashD.pre (mp1, (26 :
 Int) + 2 * (at2 p (IntKind.i64.wrap ((↑y.i : Int) - 1))).pl, ()) ∧ (decide (hashT ((26 : Int) + 2 * (at2 p (IntKind.i64.wrap ((↑y.i : Int) - 1))).pl) < 0) = true → ∃ (s : (nz0 p (↑i : Int)).St), p = p ∧ y.rs = s.rs ∧ w0
 = w0 ∧ Z39 (y.steps = s.steps ∧ Q 32 ∧ y.ws = s.ws ∧ filtT y.ws = filtT s.ws ∧ IntKind.i64.wrap (y.asked + 1) = s.asked ∧ Z40 (y.c = s.c ∧ Z43 (constA (Value.int IntKind.i64 (3 : Int)) = AVal.int IntKind.i64 1 ∧ Qc 0 ∧
 y.value = s.value ∧ Z44 ((↑y.i : Int) = (↑s.i : Int) ∧ Qb false ∧ constA (Value.int IntKind.i64 (2 : Int)) = AVal.int IntKind.i64 0 ∧ y.rd = s.rd ∧ (nz0 p (↑i : Int)).I s ∧ (nz0 p (↑i : Int)).m s < (nz0 p (↑i : Int)).m y
 ∧ True))))) ∧ (decide (hashT ((26 : Int) + 2 * (at2 p (IntKind.i64.wrap ((↑y.i : Int) - 1))).pl) < 0) = false → roomD.pre (Rs.mk (32 : Int) y.rs, hashT ((26 : Int) + 2 * (at2 p (IntKind.i64.wrap ((↑y.i : Int) - 1))).pl),
 ()) ∧ ∃ (s : (nz1 p (↑i : Int)).St), p = p ∧ y.rs = s.rs ∧ w0 = w0 ∧ Z39 (y.steps = s.steps ∧ Q 32 ∧ y.ws = s.ws ∧ filtT y.ws = filtT s.ws ∧ IntKind.i64.wrap (y.asked + 1) = s.asked ∧ Z40 (y.c = s.c ∧ Z45 ((26 : Int) + 2
 * (at2 p (IntKind.i64.wrap ((↑y.i : Int) - 1))).pl = s.a ∧ hashT ((26 : Int) + 2 * (at2 p (IntKind.i64.wrap ((↑y.i : Int) - 1))).pl) = hashT s.a ∧ y.value = s.value ∧ Z5 ((↑y.i : Int) = (↑s.i : Int) ∧ Z16 (y.rd = s.rd ∧
 (nz1 p (↑i : Int)).I s ∧ (nz1 p (↑i : Int)).m s < (nz0 p (↑i : Int)).m y ∧ True)))))))))) ∧ (((at2 p (IntKind.i64.wrap ((↑y.i : Int) - 1))).kd == 0) = false → Bi y.i p ∧ Bi y.i p ∧ dataD.pre (mp1, (at2 p
 (IntKind.i64.wrap ((↑y.i : Int) - 1))).pl, ()) ∧ valueD.pre (Rl.mk y.rd, Op.mk (at2 p (IntKind.i64.wrap ((↑y.i : Int) - 1))).kd (at2 p (IntKind.i64.wrap ((↑y.i : Int) - 1))).pl (at2 p (IntKind.i64.wrap ((↑y.i : Int) -
 1))).vl, ()) ∧ hashD.pre (mp1, (26 : Int) + 2 * (at2 p (IntKind.i64.wrap ((↑y.i : Int) - 1))).pl, ()) ∧ (decide (hashT ((26 : Int) + 2 * (at2 p (IntKind.i64.wrap ((↑y.i : Int) - 1))).pl) < 0) = true → ∃ (s : (nz0 p (↑i :
 Int)).St), p = p ∧ y.rs = s.rs ∧ w0 = w0 ∧ Z39 (y.steps = s.steps ∧ Q 32 ∧ y.ws = s.ws ∧ filtT y.ws = filtT s.ws ∧ y.asked = s.asked ∧ Z40 (y.c = s.c ∧ Z43 (constA (Value.int IntKind.i64 (3 : Int)) = AVal.int IntKind.i64
 1 ∧ Qc 0 ∧ y.value = s.value ∧ Z44 ((↑y.i : Int) = (↑s.i : Int) ∧ Qb false ∧ constA (Value.int IntKind.i64 (2 : Int)) = AVal.int IntKind.i64 0 ∧ y.rd = s.rd ∧ (nz0 p (↑i : Int)).I s ∧ (nz0 p (↑i : Int)).m s < (nz0 p (↑i
 : Int)).m y ∧ True))))) ∧ (decide (hashT ((26 : Int) + 2 * (at2 p (IntKind.i64.wrap ((↑y.i : Int) - 1))).pl) < 0) = false → (decide ((26 : Int) + 2 * (at2 p (IntKind.i64.wrap ((↑y.i : Int) - 1))).pl < 0) = true → ∃ (s :
 (nz0 p (↑i : Int)).St), p = p ∧ y.rs = s.rs ∧ w0 = w0 ∧ Z39 (y.steps = s.steps ∧ Q 32 ∧ y.ws = s.ws ∧ filtT y.ws = filtT s.ws ∧ y.asked = s.asked ∧ Z40 (y.c = s.c ∧ Z43 (constA (Value.int IntKind.i64 (3 : Int)) =
 AVal.int IntKind.i64 1 ∧ Qc 0 ∧ y.value = s.value ∧ Z44 ((↑y.i : Int) = (↑s.i : Int) ∧ Qb false ∧ constA (Value.int IntKind.i64 (2 : Int)) = AVal.int IntKind.i64 0 ∧ y.rd = s.rd ∧ (nz0 p (↑i : Int)).I s ∧ (nz0 p (↑i :
 Int)).m s < (nz0 p (↑i : Int)).m y ∧ True))))) ∧ (decide ((26 : Int) + 2 * (at2 p (IntKind.i64.wrap ((↑y.i : Int) - 1))).pl < 0) = false → findD.pre (Wr.mk (32 : Int) y.ws (filtT y.ws), (26 : Int) + 2 * (at2 p
 (IntKind.i64.wrap ((↑y.i : Int) - 1))).pl, ()) ∧ (decide (findT (Wr.mk (32 : Int) y.ws (filtT y.ws)).ls ((26 : Int) + 2 * (at2 p (IntKind.i64.wrap ((↑y.i : Int) - 1))).pl) ≥ (0 : Int)) = true → ((0 : Int) ≤ findT (Wr.mk
 (32 : Int) y.ws (filtT y.ws)).ls ((26 : Int) + 2 * (at2 p (IntKind.i64.wrap ((↑y.i : Int) - 1))).pl) ∧ findT (Wr.mk (32 : Int) y.ws (filtT y.ws)).ls ((26 : Int) + 2 * (at2 p (IntKind.i64.wrap ((↑y.i : Int) - 1))).pl) <
 (↑y.ws.length : Int)) ∧ ((0 : Int) ≤ findT (Wr.mk (32 : Int) y.ws (filtT y.ws)).ls ((26 : Int) + 2 * (at2 p (IntKind.i64.wrap ((↑y.i : Int) - 1))).pl) ∧ findT (Wr.mk (32 : Int) y.ws (filtT y.ws)).ls ((26 : Int) + 2 *
 (at2 p (IntKind.i64.wrap ((↑y.i : Int) - 1))).pl) < (↑y.ws.length : Int)) ∧ (decide ((↑y.i : Int) > (↑p.length : Int)) = true → ∃ (s : (nz0 p (↑i : Int)).St), p = p ∧ y.rs = s.rs ∧ w0 = w0 ∧ Z39 (y.steps = s.steps ∧ Q 32
 ∧ y.ws.set (findT (Wr.mk (32 : Int) y.ws (filtT y.ws)).ls ((26 : Int) + 2 * (at2 p (IntKind.i64.wrap ((↑y.i : Int) - 1))).pl)).toNat (Wo.mk (at3 y.ws (findT (Wr.mk (32 : Int) y.ws (filtT y.ws)).ls ((26 : Int) + 2 * (at2
 p (IntKind.i64.wrap ((↑y.i : Int) - 1))).pl))).pl (valT (Rl.mk y.rd).ls (Op.mk (at2 p (IntKind.i64.wrap ((↑y.i : Int) - 1))).kd (at2 p (IntKind.i64.wrap ((↑y.i : Int) - 1))).pl (at2 p (IntKind.i64.wrap ((↑y.i : Int) -
 1))).vl))) = s.ws ∧ filtT y.ws = filtT s.ws ∧ y.asked = s.asked ∧ Z40 (y.c = s.c ∧ Z41 (y.value = s.value ∧ Z5 ((↑y.i : Int) = (↑s.i : Int) ∧ constA (Value.bool false) = AVal.bool false ∧ constA (Value.int IntKind.i64 (1
 : Int)) = AVal.int IntKind.i64 0 ∧ y.rd = s.rd ∧ (nz0 p (↑i : Int)).I s ∧ (nz0 p (↑i : Int)).m s < (nz0 p (↑i : Int)).m y ∧ True))))) ∧ (decide ((↑y.i : Int) > (↑p.length : Int)) = false → (decide ((↑y.i : Int) > 0) =
 true → Bi y.i p ∧ Bi y.i p ∧ (((at2 p (IntKind.i64.wrap ((↑y.i : Int) - 1))).kd == 0) = true → Bi y.i p ∧ Bi y.i p ∧ (y.rd.length + [Wo.mk (at2 p (IntKind.i64.wrap ((↑y.i : Int) - 1))).pl y.value].length) * 16 ≤
 140737488355328 ∧ ∃ (s : (nz0 p (↑i : Int)).St), p = p ∧ y.rs = s.rs ∧ w0 = w0 ∧ Z39 (y.steps = s.steps ∧ Q 32 ∧ y.ws.set (findT (Wr.mk (32 : Int) y.ws (filtT y.ws)).ls ((26 : Int) + 2 * (at2 p (IntKind.i64.wrap ((↑y.i :
 Int) - 1))).pl)).toNat (Wo.mk (at3 y.ws (findT (Wr.mk (32 : Int) y.ws (filtT y.ws)).ls ((26 : Int) + 2 * (at2 p (IntKind.i64.wrap ((↑y.i : Int) - 1))).pl))).pl (valT (Rl.mk y.rd).ls (Op.mk (at2 p (IntKind.i64.wrap ((↑y.i
 : Int) - 1))).kd (at2 p (IntKind.i64.wrap ((↑y.i : Int) - 1))).pl (at2 p (IntKind.i64.wrap ((↑y.i : Int) - 1))).vl))) = s.ws ∧ filtT y.ws = filtT s.ws ∧ y.asked = s.asked ∧ Z40 (y.c = s.c ∧ Z41 (y.value = s.value ∧ Z5
 (IntKind.i64.wrap ((↑y.i : Int) + 1) = (↑s.i : Int) ∧ constA (Value.bool false) = AVal.bool false ∧ Q 0 ∧ y.rd ++ [Wo.mk (at2 p (IntKind.i64.wrap ((↑y.i : Int) - 1))).pl y.value] = s.rd ∧ (nz0 p (↑i : Int)).I s ∧ (nz0 p
 (↑i : Int)).m s < (nz0 p (↑i : Int)).m y ∧ True))))) ∧ (((at2 p (IntKind.i64.wrap ((↑y.i : Int) - 1))).kd == 0) = false → ∃ (s : (nz0 p (↑i : Int)).St), p = p ∧ y.rs = s.rs ∧ w0 = w0 ∧ Z39 (y.steps = s.steps ∧ Q 32 ∧
 y.ws.set (findT (Wr.mk (32 : Int) y.ws (filtT y.ws)).ls ((26 : Int) + 2 * (at2 p (IntKind.i64.wrap ((↑y.i : Int) - 1))).pl)).toNat (Wo.mk (at3 y.ws (findT (Wr.mk (32 : Int) y.ws (filtT y.ws)).ls ((26 : Int) + 2 * (at2 p
 (IntKind.i64.wrap ((↑y.i : Int) - 1))).pl))).pl (valT (Rl.mk y.rd).ls (Op.mk (at2 p (IntKind.i64.wrap ((↑y.i : Int) - 1))).kd (at2 p (IntKind.i64.wrap ((↑y.i : Int) - 1))).pl (at2 p (IntKind.i64.wrap ((↑y.i : Int) -
 1))).vl))) = s.ws ∧ filtT y.ws = filtT s.ws ∧ y.asked = s.asked ∧ Z40 (y.c = s.c ∧ Z41 (y.value = s.value ∧ Z5 (IntKind.i64.wrap ((↑y.i : Int) + 1) = (↑s.i : Int) ∧ constA (Value.bool false) = AVal.bool false ∧ Q 0 ∧
 y.rd = s.rd ∧ (nz0 p (↑i : Int)).I s ∧ (nz0 p (↑i : Int)).m s < (nz0 p (↑i : Int)).m y ∧ True)))))) ∧ (decide ((↑y.i : Int) > 0) = false → ∃ (s : (nz0 p (↑i : Int)).St), p = p ∧ y.rs = s.rs ∧ w0 = w0 ∧ Z39 (y.steps =
 s.steps ∧ Q 32 ∧ y.ws.set (findT (Wr.mk (32 : Int) y.ws (filtT y.ws)).ls ((26 : Int) + 2 * (at2 p (IntKind.i64.wrap ((↑y.i : Int) - 1))).pl)).toNat (Wo.mk (at3 y.ws (findT (Wr.mk (32 : Int) y.ws (filtT y.ws)).ls ((26 :
 Int) + 2 * (at2 p (IntKind.i64.wrap ((↑y.i : Int) - 1))).pl))).pl (valT (Rl.mk y.rd).ls (Op.mk (at2 p (IntKind.i64.wrap ((↑y.i : Int) - 1))).kd (at2 p (IntKind.i64.wrap ((↑y.i : Int) - 1))).pl (at2 p (IntKind.i64.wrap
 ((↑y.i : Int) - 1))).vl))) = s.ws ∧ filtT y.ws = filtT s.ws ∧ y.asked = s.asked ∧ Z40 (y.c = s.c ∧ Z41 (y.value = s.value ∧ Z5 (IntKind.i64.wrap ((↑y.i : Int) + 1) = (↑s.i : Int) ∧ constA (Value.bool false) = AVal.bool
 false ∧ Q 0 ∧ y.rd = s.rd ∧ (nz0 p (↑i : Int)).I s ∧ (nz0 p (↑i : Int)).m s < (nz0 p (↑i : Int)).m y ∧ True))))))) ∧ (decide (findT (Wr.mk (32 : Int) y.ws (filtT y.ws)).ls ((26 : Int) + 2 * (at2 p (IntKind.i64.wrap
 ((↑y.i : Int) - 1))).pl) ≥ (0 : Int)) = false → (decide ((↑y.ws.length : Int) ≥ (32 : Int)) = true → ∃ (s : (nz0 p (↑i : Int)).St), p = p ∧ y.rs = s.rs ∧ w0 = w0 ∧ Z39 (y.steps = s.steps ∧ Q 32 ∧ y.ws = s.ws ∧ filtT y.ws
 = filtT s.ws ∧ y.asked = s.asked ∧ Z40 (y.c = s.c ∧ Z43 (constA (Value.int IntKind.i64 (3 : Int)) = AVal.int IntKind.i64 1 ∧ Qc 0 ∧ y.value = s.value ∧ Z44 ((↑y.i : Int) = (↑s.i : Int) ∧ Qb false ∧ constA (Value.int
 IntKind.i64 (2 : Int)) = AVal.int IntKind.i64 0 ∧ y.rd = s.rd ∧ (nz0 p (↑i : Int)).I s ∧ (nz0 p (↑i : Int)).m s < (nz0 p (↑i : Int)).m y ∧ True))))) ∧ (decide ((↑y.ws.length : Int) ≥ (32 : Int)) = false → (y.ws.length +
 [Wo.mk ((26 : Int) + 2 * (at2 p (IntKind.i64.wrap ((↑y.i : Int) - 1))).pl) (valT (Rl.mk y.rd).ls (Op.mk (at2 p (IntKind.i64.wrap ((↑y.i : Int) - 1))).kd (at2 p (IntKind.i64.wrap ((↑y.i : Int) - 1))).pl (at2 p
 (IntKind.i64.wrap ((↑y.i : Int) - 1))).vl))].length) * 16 ≤ 140737488355328 ∧ bitD.pre ((26 : Int) + 2 * (at2 p (IntKind.i64.wrap ((↑y.i : Int) - 1))).pl, ()) ∧ (decide ((↑y.i : Int) > (↑p.length : Int)) = true → ∃ (s :
 (nz0 p (↑i : Int)).St), p = p ∧ y.rs = s.rs ∧ w0 = w0 ∧ Z39 (y.steps = s.steps ∧ Q 32 ∧ y.ws ++ [Wo.mk ((26 : Int) + 2 * (at2 p (IntKind.i64.wrap ((↑y.i : Int) - 1))).pl) (valT (Rl.mk y.rd).ls (Op.mk (at2 p
 (IntKind.i64.wrap ((↑y.i : Int) - 1))).kd (at2 p (IntKind.i64.wrap ((↑y.i : Int) - 1))).pl (at2 p (IntKind.i64.wrap ((↑y.i : Int) - 1))).vl))] = s.ws ∧ IntKind.u64.wrap (↑(BitVec.ofInt IntKind.u64.bits (filtT y.ws) |||
 BitVec.ofInt IntKind.u64.bits (bitT ((26 : Int) + 2 * (at2 p (IntKind.i64.wrap ((↑y.i : Int) - 1))).pl))).toNat : Int) = filtT s.ws ∧ y.asked = s.asked ∧ Z40 (y.c = s.c ∧ Z41 (y.value = s.value ∧ Z5 ((↑y.i : Int) = (↑s.i
 : Int) ∧ constA (Value.bool false) = AVal.bool false ∧ constA (Value.int IntKind.i64 (1 : Int)) = AVal.int IntKind.i64 0 ∧ y.rd = s.rd ∧ (nz0 p (↑i : Int)).I s ∧ (nz0 p (↑i : Int)).m s < (nz0 p (↑i : Int)).m y ∧
 True))))) ∧ (decide ((↑y.i : Int) > (↑p.length : Int)) = false → (decide ((↑y.i : Int) > 0) = true → Bi y.i p ∧ Bi y.i p ∧ (((at2 p (IntKind.i64.wrap ((↑y.i : Int) - 1))).kd == 0) = true → Bi y.i p ∧ Bi y.i p ∧
 (y.rd.length + [Wo.mk (at2 p (IntKind.i64.wrap ((↑y.i : Int) - 1))).pl y.value].length) * 16 ≤ 140737488355328 ∧ ∃ (s : (nz0 p (↑i : Int)).St), p = p ∧ y.rs = s.rs ∧ w0 = w0 ∧ Z39 (y.steps = s.steps ∧ Q 32 ∧ y.ws ++
 [Wo.mk ((26 : Int) + 2 * (at2 p (IntKind.i64.wrap ((↑y.i : Int) - 1))).pl) (valT (Rl.mk y.rd).ls (Op.mk (at2 p (IntKind.i64.wrap ((↑y.i : Int) - 1))).kd (at2 p (IntKind.i64.wrap ((↑y.i : Int) - 1))).pl (at2 p
 (IntKind.i64.wrap ((↑y.i : Int) - 1))).vl))] = s.ws ∧ IntKind.u64.wrap (↑(BitVec.ofInt IntKind.u64.bits (filtT y.ws) ||| BitVec.ofInt IntKind.u64.bits (bitT ((26 : Int) + 2 * (at2 p (IntKind.i64.wrap ((↑y.i : Int) -
 1))).pl))).toNat : Int) = filtT s.ws ∧ y.asked = s.asked ∧ Z40 (y.c = s.c ∧ Z41 (y.value = s.value ∧ Z5 (IntKind.i64.wrap ((↑y.i : Int) + 1) = (↑s.i : Int) ∧ constA (Value.bool false) = AVal.bool false ∧ Q 0 ∧ y.rd ++
 [Wo.mk (at2 p (IntKind.i64.wrap ((↑y.i : Int) - 1))).pl y.value] = s.rd ∧ (nz0 p (↑i : Int)).I s ∧ (nz0 p (↑i : Int)).m s < (nz0 p (↑i : Int)).m y ∧ True))))) ∧ (((at2 p (IntKind.i64.wrap ((↑y.i : Int) - 1))).kd == 0) =
 false → ∃ (s : (nz0 p (↑i : Int)).St), p = p ∧ y.rs = s.rs ∧ w0 = w0 ∧ Z39 (y.steps = s.steps ∧ Q 32 ∧ y.ws ++ [Wo.mk ((26 : Int) + 2 * (at2 p (IntKind.i64.wrap ((↑y.i : Int) - 1))).pl) (valT (Rl.mk y.rd).ls (Op.mk (at2
 p (IntKind.i64.wrap ((↑y.i : Int) - 1))).kd (at2 p (IntKind.i64.wrap ((↑y.i : Int) - 1))).pl (at2 p (IntKind.i64.wrap ((↑y.i : Int) - 1))).vl))] = s.ws ∧ IntKind.u64.wrap (↑(BitVec.ofInt IntKind.u64.bits (filtT y.ws) |||
 BitVec.ofInt IntKind.u64.bits (bitT ((26 : Int) + 2 * (at2 p (IntKind.i64.wrap ((↑y.i : Int) - 1))).pl))).toNat : Int) = filtT s.ws ∧ y.asked = s.asked ∧ Z40 (y.c = s.c ∧ Z41 (y.value = s.value ∧ Z5 (IntKind.i64.wrap
 ((↑y.i : Int) + 1) = (↑s.i : Int) ∧ constA (Value.bool false) = AVal.bool false ∧ Q 0 ∧ y.rd = s.rd ∧ (nz0 p (↑i : Int)).I s ∧ (nz0 p (↑i : Int)).m s < (nz0 p (↑i : Int)).m y ∧ True)))))) ∧ (decide ((↑y.i : Int) > 0) =
 false → ∃ (s : (nz0 p (↑i : Int)).St), p = p ∧ y.rs = s.rs ∧ w0 = w0 ∧ Z39 (y.steps = s.steps ∧ Q 32 ∧ y.ws ++ [Wo.mk ((26 : Int) + 2 * (at2 p (IntKind.i64.wrap ((↑y.i : Int) - 1))).pl) (valT (Rl.mk y.rd).ls (Op.mk (at2
 p (IntKind.i64.wrap ((↑y.i : Int) - 1))).kd (at2 p (IntKind.i64.wrap ((↑y.i : Int) - 1))).pl (at2 p (IntKind.i64.wrap ((↑y.i : Int) - 1))).vl))] = s.ws ∧ IntKind.u64.wrap (↑(BitVec.ofInt IntKind.u64.bits (filtT y.ws) |||
 BitVec.ofInt IntKind.u64.bits (bitT ((26 : Int) + 2 * (at2 p (IntKind.i64.wrap ((↑y.i : Int) - 1))).pl))).toNat : Int) = filtT s.ws ∧ y.asked = s.asked ∧ Z40 (y.c = s.c ∧ Z41 (y.value = s.value ∧ Z5 (IntKind.i64.wrap
 ((↑y.i : Int) + 1) = (↑s.i : Int) ∧ constA (Value.bool false) = AVal.bool false ∧ Q 0 ∧ y.rd = s.rd ∧ (nz0 p (↑i : Int)).I s ∧ (nz0 p (↑i : Int)).m s < (nz0 p (↑i : Int)).m y ∧ True)))))))))))))) ∧ (∀ (y : (nz1 p (↑i :
 Int)).St), (nz1 p (↑i : Int)).I y → sizeD.pre (mp1, ()) ∧ (false = true → (decide ((↑y.i : Int) > (↑p.length : Int)) = true → ∃ (s : US), Z2 (w0 = s.W ∧ y.steps = s.steps ∧ Z7 (y.rs = s.rs ∧ Q 32 ∧ y.ws = s.ws ∧ filtT
 y.ws = filtT s.ws ∧ y.asked = s.asked ∧ Qn ∧ AVal.int IntKind.i64 1 = AVal.int IntKind.i64 2 ∧ AVal.int IntKind.i64 2 = AVal.int IntKind.i64 0 ∧ y.value = s.value ∧ (0 : Int) = s.a ∧ (0 : Int) = s.a ∧ p = p ∧ (↑y.i :
 Int) = (↑s.i : Int) ∧ constA (Value.bool false) = AVal.bool false ∧ Qc 1 ∧ y.rd = s.rd ∧ IntKind.i64.wrap ((↑n : Int) + 1) = (↑s.n : Int) ∧ ((fun (s : US) => baseW p s ∧ (s.i = p.length + 1 ∧ s.W.length = 34) ∧ doneI s)
 s ∧ s.n + (fun (s : US) => 0) s ≤ 200) ∧ (1000000 : Nat) - s.n < 1000000 - n ∧ True))) ∧ (decide ((↑y.i : Int) > (↑p.length : Int)) = false → (decide ((↑y.i : Int) > 0) = true → Bi y.i p ∧ Bi y.i p ∧ (((at2 p
 (IntKind.i64.wrap ((↑y.i : Int) - 1))).kd == 0) = true → Bi y.i p ∧ Bi y.i p ∧ (y.rd.length + [Wo.mk (at2 p (IntKind.i64.wrap ((↑y.i : Int) - 1))).pl y.value].length) * 16 ≤ 140737488355328 ∧ Stuck "sel: none") ∧ (((at2
 p (IntKind.i64.wrap ((↑y.i : Int) - 1))).kd == 0) = false → Stuck "sel: none")) ∧ (decide ((↑y.i : Int) > 0) = false → Stuck "sel: none"))) ∧ (false = false → stripeD.pre (mp1, hashT y.a, ()) ∧ badD.pre (Mw.mk w0, (2 :
 Int) + hashT y.a, ()) ∧ ((0 : Int) ≤ 2 + hashT y.a ∧ (2 : Int) + hashT y.a < 34) ∧ ((0 : Int) ≤ 2 + hashT y.a ∧ (2 : Int) + hashT y.a < 34) ∧ freshD.pre (at0 w0 ((2 : Int) + hashT y.a), (0 : Int), ()) ∧ ∃ (s : US), Z2
 (w0 = w0 ∧ IntKind.i64.wrap (y.steps + 1) = s.steps ∧ Z8 (y.c = s.c ∧ Z9 (y.rs = s.rs ∧ Q 32 ∧ y.ws = s.ws ∧ filtT y.ws = filtT s.ws ∧ y.asked = s.asked ∧ Z15 (y.a = s.a ∧ hashT y.a = hashT s.a ∧ AVal.int IntKind.i64
 (at0 w0 ((2 : Int) + hashT y.a)) = AVal.int IntKind.i64 0 ∧ y.value = s.value ∧ Z5 (p = p ∧ (↑y.i : Int) = (↑s.i : Int) ∧ Z16 (y.rd = s.rd ∧ IntKind.i64.wrap ((↑n : Int) + 1) = (↑s.n : Int) ∧ ((fun (s : US) => baseW p s
 ∧ readI p s) s ∧ s.n + (fun (s : US) => 58 + 5 * ((10 : Nat) - s.i)) s ≤ 200) ∧ (1000000 : Nat) - s.n < 1000000 - n ∧ True)))))))) ∧ (∀ (y : (nz2 p).St), (nz2 p).I y → sizeD.pre (mp1, ()) ∧ (false = true → (decide ((↑y.i
 : Int) > (↑p.length : Int)) = true → ∃ (s : US), Z2 (w0 = s.W ∧ y.steps = s.steps ∧ Z7 (y.rs = s.rs ∧ Q 32 ∧ y.ws = s.ws ∧ filtT y.ws = filtT s.ws ∧ y.asked = s.asked ∧ Qn ∧ AVal.int IntKind.i64 1 = AVal.int IntKind.i64
 2 ∧ AVal.int IntKind.i64 4 = AVal.int IntKind.i64 0 ∧ y.value = s.value ∧ (0 : Int) = s.a ∧ (0 : Int) = s.a ∧ p = p ∧ (↑y.i : Int) = (↑s.i : Int) ∧ constA (Value.bool false) = AVal.bool false ∧ Qc 1 ∧ y.rd = s.rd ∧
 IntKind.i64.wrap ((↑n : Int) + 1) = (↑s.n : Int) ∧ ((fun (s : US) => baseW p s ∧ (s.i = p.length + 1 ∧ s.W.length = 34) ∧ doneI s) s ∧ s.n + (fun (s : US) => 0) s ≤ 200) ∧ (1000000 : Nat) - s.n < 1000000 - n ∧ True))) ∧
 (decide ((↑y.i : Int) > (↑p.length : Int)) = false → (decide ((↑y.i : Int) > 0) = true → Bi y.i p ∧ Bi y.i p ∧ (((at2 p (IntKind.i64.wrap ((↑y.i : Int) - 1))).kd == 0) = true → Bi y.i p ∧ Bi y.i p ∧ (y.rd.length + [Wo.mk
 (at2 p (IntKind.i64.wrap ((↑y.i : Int) - 1))).pl y.value].length) * 16 ≤ 140737488355328 ∧ Stuck "sel: none") ∧ (((at2 p (IntKind.i64.wrap ((↑y.i : Int) - 1))).kd == 0) = false → Stuck "sel: none")) ∧ (decide ((↑y.i :
 Int) > 0) = false → Stuck "sel: none"))) ∧ (false = false → threadD.pre (mp1, (1 : Int), (0 : Int), ()) ∧ badD.pre (Mw.mk w0, (13 : Int), ()) ∧ Bl 13 ∧ Bl 13 ∧ Bl 13 ∧ Bl 13 ∧ (decide ((↑y.ws.length : Int) > 0) = true →
 y.ws.length * 16 ≤ 140737488355328 ∧ placesD.pre (y.ws, ()) ∧ rowsD.pre (mp1, List.map (fun (x : Wo) => x.pl) y.ws, ()) ∧ ((y.c == 1) = true → (decide ((0 : Int) ≥ (↑(rowsT (List.map (fun (x : Wo) => x.pl) y.ws)).length
 : Int)) = true → ∃ (s : US), Z2 (w0.set (13 : Nat) (2 : Int) = wR (0 : Int) (2 : Int) s.rows ∧ IntKind.i64.wrap (y.steps + 1) = s.steps ∧ Z8 (y.c = s.c ∧ Z9 (y.rs = s.rs ∧ Q 32 ∧ y.ws = s.ws ∧ filtT y.ws = filtT s.ws ∧
 y.asked = s.asked ∧ Z18 (y.value = s.value ∧ Z19 ((1 : Int) = s.bk ∧ Z20 (rowsT (List.map (fun (x : Wo) => x.pl) y.ws) = s.rows ∧ [] = takT s.rows ∧ constA (Value.bool true) = AVal.bool true ∧ p = p ∧ (↑y.i : Int) =
 (↑s.i : Int) ∧ Z16 (y.rd = s.rd ∧ IntKind.i64.wrap ((↑n : Int) + 1) = (↑s.n : Int) ∧ ((fun (s : US) => baseW p s ∧ lateP p s ∧ (fun (s : US) => True) s) s ∧ s.n + (fun (s : US) => 45) s ≤ 200) ∧ (1000000 : Nat) - s.n <
 1000000 - n ∧ True)))))))) ∧ (decide ((0 : Int) ≥ (↑(rowsT (List.map (fun (x : Wo) => x.pl) y.ws)).length : Int)) = false → ∃ (s : US), Z2 (w0.set (13 : Nat) (2 : Int) = wR (0 : Int) (2 : Int) (List.take s.xi s.rows) ∧
 IntKind.i64.wrap (y.steps + 1) = s.steps ∧ Z8 (y.c = s.c ∧ Z9 (y.rs = s.rs ∧ Q 32 ∧ y.ws = s.ws ∧ filtT y.ws = filtT s.ws ∧ y.asked = s.asked ∧ Z21 ((0 : Int) = (↑s.xi : Int) ∧ y.value = s.value ∧ Z19 ((1 : Int) = s.bk ∧
 Z20 (rowsT (List.map (fun (x : Wo) => x.pl) y.ws) = s.rows ∧ [] = takT (List.take s.xi s.rows) ∧ constA (Value.bool true) = AVal.bool true ∧ p = p ∧ (↑y.i : Int) = (↑s.i : Int) ∧ Z16 (y.rd = s.rd ∧ IntKind.i64.wrap ((↑n
 : Int) + 1) = (↑s.n : Int) ∧ ((fun (s : US) => baseW p s ∧ lateP p s ∧ (fun (s : US) => s.xi < s.rows.length) s) s ∧ s.n + (fun (s : US) => 55 - 2 * s.xi) s ≤ 200) ∧ (1000000 : Nat) - s.n < 1000000 - n ∧ True))))))))) ∧
 ((y.c == 1) = false → ((y.c == 2) = true → (decide ((0 : Int) ≥ (↑(rowsT (List.map (fun (x : Wo) => x.pl) y.ws)).length : Int)) = true → ∃ (s : US), Z2 (w0.set (13 : Nat) (2 : Int) = wR (0 : Int) (2 : Int) s.rows ∧
 IntKind.i64.wrap (y.steps + 1) = s.steps ∧ Z8 (y.c = s.c ∧ Z9 (y.rs = s.rs ∧ Q 32 ∧ y.ws = s.ws ∧ filtT y.ws = filtT s.ws ∧ y.asked = s.asked ∧ Z18 (y.value = s.value ∧ Z19 ((2 : Int) = s.bk ∧ Z20 (rowsT (List.map (fun
 (x : Wo) => x.pl) y.ws) = s.rows ∧ [] = takT s.rows ∧ constA (Value.bool true) = AVal.bool true ∧ p = p ∧ (↑y.i : Int) = (↑s.i : Int) ∧ Z16 (y.rd = s.rd ∧ IntKind.i64.wrap ((↑n : Int) + 1) = (↑s.n : Int) ∧ ((fun (s : US)
 => baseW p s ∧ lateP p s ∧ (fun (s : US) => True) s) s ∧ s.n + (fun (s : US) => 45) s ≤ 200) ∧ (1000000 : Nat) - s.n < 1000000 - n ∧ True)))))))) ∧ (decide ((0 : Int) ≥ (↑(rowsT (List.map (fun (x : Wo) => x.pl)
 y.ws)).length : Int)) = false → ∃ (s : US), Z2 (w0.set (13 : Nat) (2 : Int) = wR (0 : Int) (2 : Int) (List.take s.xi s.rows) ∧ IntKind.i64.wrap (y.steps + 1) = s.steps ∧ Z8 (y.c = s.c ∧ Z9 (y.rs = s.rs ∧ Q 32 ∧ y.ws =
 s.ws ∧ filtT y.ws = filtT s.ws ∧ y.asked = s.asked ∧ Z21 ((0 : Int) = (↑s.xi : Int) ∧ y.value = s.value ∧ Z19 ((2 : Int) = s.bk ∧ Z20 (rowsT (List.map (fun (x : Wo) => x.pl) y.ws) = s.rows ∧ [] = takT (List.take s.xi
 s.rows) ∧ constA (Value.bool true) = AVal.bool true ∧ p = p ∧ (↑y.i : Int) = (↑s.i : Int) ∧ Z16 (y.rd = s.rd ∧ IntKind.i64.wrap ((↑n : Int) + 1) = (↑s.n : Int) ∧ ((fun (s : US) => baseW p s ∧ lateP p s ∧ (fun (s : US) =>
 s.xi < s.rows.length) s) s ∧ s.n + (fun (s : US) => 55 - 2 * s.xi) s ≤ 200) ∧ (1000000 : Nat) - s.n < 1000000 - n ∧ True))))))))) ∧ ((y.c == 2) = false → (decide ((0 : Int) ≥ (↑(rowsT (List.map (fun (x : Wo) => x.pl)
 y.ws)).length : Int)) = true → ∃ (s : US), Z2 (w0.set (13 : Nat) (2 : Int) = wR (0 : Int) (2 : Int) s.rows ∧ IntKind.i64.wrap (y.steps + 1) = s.steps ∧ Z8 (y.c = s.c ∧ Z9 (y.rs = s.rs ∧ Q 32 ∧ y.ws = s.ws ∧ filtT y.ws =
 filtT s.ws ∧ y.asked = s.asked ∧ Z18 (y.value = s.value ∧ Z19 ((0 : Int) = s.bk ∧ Z20 (rowsT (List.map (fun (x : Wo) => x.pl) y.ws) = s.rows ∧ [] = takT s.rows ∧ constA (Value.bool true) = AVal.bool true ∧ p = p ∧ (↑y.i
 : Int) = (↑s.i : Int) ∧ Z16 (y.rd = s.rd ∧ IntKind.i64.wrap ((↑n : Int) + 1) = (↑s.n : Int) ∧ ((fun (s : US) => baseW p s ∧ lateP p s ∧ (fun (s : US) => True) s) s ∧ s.n + (fun (s : US) => 45) s ≤ 200) ∧ (1000000 : Nat)
 - s.n < 1000000 - n ∧ True)))))))) ∧ (decide ((0 : Int) ≥ (↑(rowsT (List.map (fun (x : Wo) => x.pl) y.ws)).length : Int)) = false → ∃ (s : US), Z2 (w0.set (13 : Nat) (2 : Int) = wR (0 : Int) (2 : Int) (List.take s.xi
 s.rows) ∧ IntKind.i64.wrap (y.steps + 1) = s.steps ∧ Z8 (y.c = s.c ∧ Z9 (y.rs = s.rs ∧ Q 32 ∧ y.ws = s.ws ∧ filtT y.ws = filtT s.ws ∧ y.asked = s.asked ∧ Z21 ((0 : Int) = (↑s.xi : Int) ∧ y.value = s.value ∧ Z19 ((0 :
 Int) = s.bk ∧ Z20 (rowsT (List.map (fun (x : Wo) => x.pl) y.ws) = s.rows ∧ [] = takT (List.take s.xi s.rows) ∧ constA (Value.bool true) = AVal.bool true ∧ p = p ∧ (↑y.i : Int) = (↑s.i : Int) ∧ Z16 (y.rd = s.rd ∧
 IntKind.i64.wrap ((↑n : Int) + 1) = (↑s.n : Int) ∧ ((fun (s : US) => baseW p s ∧ lateP p s ∧ (fun (s : US) => s.xi < s.rows.length) s) s ∧ s.n + (fun (s : US) => 55 - 2 * s.xi) s ≤ 200) ∧ (1000000 : Nat) - s.n < 1000000
 - n ∧ True))))))))))) ∧ (decide ((↑y.ws.length : Int) > 0) = false → (decide ((0 : Int) < (↑y.ws.length : Int)) = true → ∃ (s : US), Z2 (w0.set (13 : Nat) (2 : Int) = s.W ∧ IntKind.i64.wrap (y.steps + 1) = s.steps ∧ Z7
 (y.rs = s.rs ∧ Q 32 ∧ y.ws = s.ws ∧ filtT y.ws = filtT s.ws ∧ y.asked = s.asked ∧ Z22 ((0 : Int) = (↑s.xi : Int) ∧ y.value = s.value ∧ Q 0 ∧ AVal.int IntKind.i64 0 = AVal.int IntKind.i64 1 ∧ [] = s.rows ∧ p = p ∧ (↑y.i :
 Int) = (↑s.i : Int) ∧ Z16 (y.rd = s.rd ∧ IntKind.i64.wrap ((↑n : Int) + 1) = (↑s.n : Int) ∧ ((fun (s : US) => baseW p s ∧ (s.i = p.length + 1 ∧ s.W.length = 34) ∧ writeI s) s ∧ s.n + (fun (s : US) => 29 - s.xi) s ≤ 200)
 ∧ (1000000 : Nat) - s.n < 1000000 - n ∧ True))))) ∧ (decide ((0 : Int) < (↑y.ws.length : Int)) = false → ∃ (s : US), Z2 (w0.set (13 : Nat) (2 : Int) = s.W ∧ IntKind.i64.wrap (y.steps + 1) = s.steps ∧ Z7 (y.rs = s.rs ∧ Q
 32 ∧ y.ws = s.ws ∧ filtT y.ws = filtT s.ws ∧ y.asked = s.asked ∧ Z23 (y.value = s.value ∧ Q 0 ∧ (0 : Int) = s.a ∧ p = p ∧ (↑y.i : Int) = (↑s.i : Int) ∧ Z16 (y.rd = s.rd ∧ IntKind.i64.wrap ((↑n : Int) + 1) = (↑s.n : Int)
 ∧ ((fun (s : US) => baseW p s ∧ (s.i = p.length + 1 ∧ s.W.length = 34) ∧ leaveI s) s ∧ s.n + (fun (s : US) => 10) s ≤ 200) ∧ (1000000 : Nat) - s.n < 1000000 - n ∧ True)))))))) ∧ ∃ (s : (nz0 p (↑i : Int)).St), p = p ∧ rs
 = s.rs ∧ w0 = w0 ∧ Z39 (steps = s.steps ∧ Q 32 ∧ ws = s.ws ∧ filtT ws = filtT s.ws ∧ asked = s.asked ∧ Z40 (c = s.c ∧ Z41 (value = s.value ∧ Z5 ((↑i : Int) = (↑s.i : Int) ∧ Z46 (rd = s.rd ∧ (nz0 p (↑i : Int)).I s ∧
 True)))))) ∧ (decide ((↑n : Int) < 200) = false → keysD.pre (Rs.mk (32 : Int) rs, ()) ∧ ws.length * 16 ≤ 140737488355328 ∧ ∃ (s : US), Z2 (w0 = s.W ∧ steps = s.steps ∧ AVal.int IntKind.i64 1 = AVal.int IntKind.i64 2 ∧ (0
 : Int) = s.a ∧ (0 : Int) = s.a ∧ AVal.int IntKind.i64 0 = AVal.int IntKind.i64 1 ∧ ws = s.ws ∧ Qc 0 ∧ putI (0 : Nat) s ∧ (1000 : Nat) < 1000000 - n ∧ True))) := by kernel_rfl
theorem al_k3_ok (l p : List Op) (cl : Int) (s : US) (hI : (q3 p).I s) : Paid (cA l p cl 18 (q3 p) s) := by
  obtain ⟨n, i, rd, rs, ws, xi, a, c, bk, value, steps, asked, W, rows⟩ := s
  obtain ⟨⟨⟨⟨hpO, hc, hi, hrd, hrs, hws, hwd, hrr⟩, hnod⟩, hI⟩, hn⟩ := hI
  have hi1 : 1 ≤ i := hI
  have hc : c = 1 ∨ c = 2 := hc
  have hi : i ≤ p.length + 1 := hi
  have hrd : rd.length ≤ i := hrd
  have hrs : rs.length ≤ i := hrs
  have hws : ws.length ≤ i := hws
  have hwd : ∀ w ∈ ws, isData w.pl := hwd
  have hrr : ∀ w ∈ rs, 0 ≤ w.pl ∧ w.pl < 3 := hrr
  have hn : n + (60 + 5 * (10 - i)) ≤ 200 := hn
  have hp8 := hpO.1
  have hn2 : n < 200 := by omega
  have hB : ∀ {n xi : Nat} {a bk value steps asked : Int} {W rows : List Int}, baseI p ⟨n, i, rd, rs, ws, xi, a, c, bk, value, steps, asked, W, rows⟩ := mkBase hpO hc hi hrd hrs hws hwd hrr
  refine ⟨?_⟩
  rw [al_k3]
  refine ⟨?_, ?_⟩
  · intro h1
    replace h1 := of_decide_eq_true h1
    first
    | (exfalso; omega)
    | (refine ⟨?_, ?_, ?_, ?_⟩
       · intro y
         intro h2
         obtain ⟨⟨⟨hpO, hc, hi, hrd, hrs, hws, hwd, hrr⟩, hnod⟩, hI⟩ := h2
         have hB : ∀ {n xi : Nat} {a bk value steps asked : Int} {W rows : List Int}, baseI p ⟨n, y.i, y.rd, y.rs, y.ws, xi, a, y.c, bk, value, steps, asked, W, rows⟩ := mkBase hpO hc hi hrd hrs hws hwd hrr
         obtain ⟨h1, hi0⟩ := hI
         have h1 : 1 ≤ y.i := h1
         have hi0 : (i : Int) ≤ (y.i : Int) := hi0
         refine ⟨?_, ?_⟩
         · intro h3
           replace h3 := eq_of_beq h3
           first
           | (exfalso; omega)
           | (exact ⟨⟨y.n, y.i, y.rd, y.rs, y.ws, y.xi, y.a, y.c, y.bk, y.value, y.steps, y.asked, y.W, y.rows⟩, ⟨rfl, rfl, rfl, t39 ⟨rfl, rfl, rfl, rfl, rfl, t40 ⟨rfl, t41 ⟨rfl, t5 ⟨rfl, rfl, rfl, rfl, ⟨(mkBW hB hnod), ⟨(show 1 ≤ y.i by omega), (show (i : Int) ≤ ((y.i : Nat) : Int) by omega)⟩⟩, (show 100 - (y.i) < 100 - y.i by omega), trivial⟩⟩⟩⟩⟩⟩)
         · intro h4
           replace h4 := ne_of_beq_false h4
           first
           | (exfalso; omega)
           | (refine ⟨?_, ?_⟩
              · intro h5
                replace h5 := of_decide_eq_true h5
                first
                | (exfalso; omega)
                | (exact ⟨⟨y.n, y.i, y.rd, y.rs, y.ws, y.xi, y.a, y.c, y.bk, y.value, y.steps, y.asked, y.W, y.rows⟩, ⟨rfl, rfl, rfl, t39 ⟨rfl, rfl, rfl, rfl, rfl, t40 ⟨rfl, t42 ⟨rfl, t5 ⟨rfl, t16 ⟨rfl, ⟨(mkBW hB hnod), (show y.i = p.length + 1 by omega)⟩, (show 1 < 100 - y.i by omega), trivial⟩⟩⟩⟩⟩⟩⟩)
              · intro h6
                replace h6 := of_decide_eq_false h6
                first
                | (exfalso; omega)
                | (refine ⟨?_, ?_, ?_, ?_⟩
                   · exact ⟨(by rw [wM (by omega)]; omega), (by rw [wM (by omega)]; omega)⟩
                   · exact ⟨(by rw [wM (by omega)]; omega), (by rw [wM (by omega)]; omega)⟩
                   · intro h7
                     have hpl := plan_at hpO (show 1 ≤ y.i by omega) (show y.i ≤ p.length by omega)
                     have hpd := data_of hpl.1 hpl.2
                     have hph := hash_in hpd
                     refine ⟨?_, ?_, (And.intro rfl (And.intro (show (0 : Int) ≤ (at2 p (IntKind.i64.wrap ((↑y.i : Int) - (1 : Int)))).pl from (plan_at hpO (by omega) (by omega)).1) (show (at2 p (IntKind.i64.wrap ((↑y.i : Int) - (1 : Int)))).pl < (4 : Int) from (plan_at hpO (by omega) (by omega)).2))), ?_, ?_⟩
                     · exact ⟨(by rw [wM (by omega)]; omega), (by rw [wM (by omega)]; omega)⟩
                     · exact ⟨(by rw [wM (by omega)]; omega), (by rw [wM (by omega)]; omega)⟩
                     · intro h8
                       replace h8 := of_decide_eq_true h8
                       first
                       | (exfalso; omega)
                       | (refine ⟨(And.intro rfl hpd), ?_, ?_⟩
                          · intro h9
                            replace h9 := of_decide_eq_true h9
                            first
                            | (exfalso; omega)
                            | (exact ⟨⟨y.n, y.i, y.rd, y.rs, y.ws, y.xi, y.a, y.c, y.bk, y.value, y.steps, y.asked, y.W, y.rows⟩, ⟨rfl, rfl, rfl, t39 ⟨rfl, rfl, rfl, rfl, rfl, t40 ⟨rfl, t43 ⟨rfl, rfl, rfl, t44 ⟨rfl, rfl, rfl, rfl, ⟨(mkBW hB hnod), ⟨(show 1 ≤ y.i by omega), (show (i : Int) ≤ ((y.i : Nat) : Int) by omega)⟩⟩, (show 100 - (y.i) < 100 - y.i by omega), trivial⟩⟩⟩⟩⟩⟩)
                          · intro h10
                            replace h10 := of_decide_eq_false h10
                            first
                            | (exfalso; omega)
                            | (refine ⟨(And.intro rfl (show y.rs.length < 32 by omega)), ?_⟩
                               exact ⟨⟨y.n, y.i, y.rd, y.rs, y.ws, y.xi, (26 : Int) + (2 : Int) * (at2 p (IntKind.i64.wrap ((↑y.i : Int) - (1 : Int)))).pl, y.c, y.bk, y.value, y.steps, y.asked, y.W, y.rows⟩, ⟨rfl, rfl, rfl, t39 ⟨rfl, rfl, rfl, rfl, rfl, t40 ⟨rfl, t45 ⟨rfl, rfl, rfl, t5 ⟨rfl, t16 ⟨rfl, ⟨(mkBW hB hnod), ⟨mkRead (by omega) (by omega) hpd, (show (i : Int) ≤ ((y.i : Nat) : Int) by omega)⟩⟩, (show 1 < 100 - y.i by omega), trivial⟩⟩⟩⟩⟩⟩⟩))
                     · intro h11
                       replace h11 := of_decide_eq_false h11
                       first
                       | (exfalso; omega)
                       | (refine ⟨hpd, ?_, ?_⟩
                          · intro h12
                            have hno := no_bit hpd h12
                            refine ⟨(And.intro rfl hpd), ?_, ?_⟩
                            · intro h13
                              replace h13 := of_decide_eq_true h13
                              first
                              | (exfalso; omega)
                              | (exact ⟨⟨y.n, y.i, y.rd, y.rs, y.ws, y.xi, y.a, y.c, y.bk, y.value, y.steps, y.asked, y.W, y.rows⟩, ⟨rfl, rfl, rfl, t39 ⟨rfl, rfl, rfl, rfl, rfl, t40 ⟨rfl, t43 ⟨rfl, rfl, rfl, t44 ⟨rfl, rfl, rfl, rfl, ⟨(mkBW hB hnod), ⟨(show 1 ≤ y.i by omega), (show (i : Int) ≤ ((y.i : Nat) : Int) by omega)⟩⟩, (show 100 - (y.i) < 100 - y.i by omega), trivial⟩⟩⟩⟩⟩⟩)
                            · intro h14
                              replace h14 := of_decide_eq_false h14
                              first
                              | (exfalso; omega)
                              | (refine ⟨(And.intro rfl (show y.rs.length < 32 by omega)), ?_⟩
                                 exact ⟨⟨y.n, y.i, y.rd, y.rs, y.ws, y.xi, (26 : Int) + (2 : Int) * (at2 p (IntKind.i64.wrap ((↑y.i : Int) - (1 : Int)))).pl, y.c, y.bk, y.value, y.steps, y.asked, y.W, y.rows⟩, ⟨rfl, rfl, rfl, t39 ⟨rfl, rfl, rfl, rfl, rfl, t40 ⟨rfl, t45 ⟨rfl, rfl, rfl, t5 ⟨rfl, t16 ⟨rfl, ⟨(mkBW hB hnod), ⟨mkRead (by omega) (by omega) hpd, (show (i : Int) ≤ ((y.i : Nat) : Int) by omega)⟩⟩, (show 1 < 100 - y.i by omega), trivial⟩⟩⟩⟩⟩⟩⟩)
                          · intro h15
                            refine ⟨(And.intro (show y.ws.length ≤ 1000 by omega) (And.intro hpd rfl)), ?_, ?_⟩
                            · intro h16
                              have hf0 := of_decide_eq_true h16
                              have hf1 := find_ub hf0
                              refine ⟨?_, ?_, ?_, ?_⟩
                              · exact ⟨hf0, hf1⟩
                              · exact ⟨hf0, hf1⟩
                              · intro h17
                                replace h17 := of_decide_eq_true h17
                                first
                                | (exfalso; omega)
                                | (exact ⟨⟨y.n, y.i, y.rd, y.rs, y.ws, y.xi, y.a, y.c, y.bk, (at3 y.ws (findT (Wr.mk (32 : Int) y.ws (filtT y.ws)).ls ((26 : Int) + (2 : Int) * (at2 p (IntKind.i64.wrap ((↑y.i : Int) - (1 : Int)))).pl))).vl, y.steps, IntKind.i64.wrap (y.asked + (1 : Int)), y.W, y.rows⟩, ⟨rfl, rfl, rfl, t39 ⟨rfl, rfl, rfl, rfl, rfl, t40 ⟨rfl, t41 ⟨rfl, t5 ⟨rfl, rfl, rfl, rfl, ⟨(mkBW hB hnod), ⟨(show 1 ≤ y.i by omega), (show (i : Int) ≤ ((y.i : Nat) : Int) by omega)⟩⟩, (show 100 - (y.i) < 100 - y.i by omega), trivial⟩⟩⟩⟩⟩⟩)
                              · intro h18
                                replace h18 := of_decide_eq_false h18
                                first
                                | (exfalso; omega)
                                | (refine ⟨?_, ?_⟩
                                   · intro h19
                                     replace h19 := of_decide_eq_true h19
                                     first
                                     | (exfalso; omega)
                                     | (refine ⟨?_, ?_, ?_, ?_⟩
                                        · exact ⟨(by rw [wM (by omega)]; omega), (by rw [wM (by omega)]; omega)⟩
                                        · exact ⟨(by rw [wM (by omega)]; omega), (by rw [wM (by omega)]; omega)⟩
                                        · intro h20
                                          have hpl := plan_at hpO (show 1 ≤ y.i by omega) (show y.i ≤ p.length by omega)
                                          have hpd := data_of hpl.1 hpl.2
                                          have hph := hash_in hpd
                                          refine ⟨?_, ?_, (by simp only [List.length_cons, List.length_nil, tak_len] at *; first | omega | (have := rows_take rows hr8 xi (by omega); have := rows_len _ this; omega)), ?_⟩
                                          · exact ⟨(by rw [wM (by omega)]; omega), (by rw [wM (by omega)]; omega)⟩
                                          · exact ⟨(by rw [wM (by omega)]; omega), (by rw [wM (by omega)]; omega)⟩
                                          · exact ⟨⟨y.n, y.i + 1, y.rd ++ [Wo.mk (at2 p (IntKind.i64.wrap ((↑y.i : Int) - (1 : Int)))).pl (at3 y.ws (findT (Wr.mk (32 : Int) y.ws (filtT y.ws)).ls ((26 : Int) + (2 : Int) * (at2 p (IntKind.i64.wrap ((↑y.i : Int) - (1 : Int)))).pl))).vl], y.rs, y.ws, y.xi, y.a, y.c, y.bk, (at3 y.ws (findT (Wr.mk (32 : Int) y.ws (filtT y.ws)).ls ((26 : Int) + (2 : Int) * (at2 p (IntKind.i64.wrap ((↑y.i : Int) - (1 : Int)))).pl))).vl, y.steps, IntKind.i64.wrap (y.asked + (1 : Int)), y.W, y.rows⟩, ⟨rfl, rfl, rfl, t39 ⟨rfl, rfl, rfl, rfl, rfl, t40 ⟨rfl, t41 ⟨rfl, t5 ⟨(wN (by omega)), rfl, rfl, rfl, ⟨(mkBW (mkBase hpO hc (by first | omega | (simp only [List.length_append, List.length_cons, List.length_nil, List.length_set]; omega)) (by first | omega | (simp only [List.length_append, List.length_cons, List.length_nil, List.length_set]; omega)) (by first | omega | (simp only [List.length_append, List.length_cons, List.length_nil, List.length_set]; omega)) (by first | omega | (simp only [List.length_append, List.length_cons, List.length_nil, List.length_set]; omega)) hwd hrr) hnod), ⟨(show 1 ≤ y.i + 1 by omega), (show (i : Int) ≤ ((y.i + 1 : Nat) : Int) by omega)⟩⟩, (show 100 - (y.i + 1) < 100 - y.i by omega), trivial⟩⟩⟩⟩⟩⟩
                                        · intro h21
                                          have hpl := plan_at hpO (show 1 ≤ y.i by omega) (show y.i ≤ p.length by omega)
                                          have hpd := data_of hpl.1 hpl.2
                                          have hph := hash_in hpd
                                          exact ⟨⟨y.n, y.i + 1, y.rd, y.rs, y.ws, y.xi, y.a, y.c, y.bk, (at3 y.ws (findT (Wr.mk (32 : Int) y.ws (filtT y.ws)).ls ((26 : Int) + (2 : Int) * (at2 p (IntKind.i64.wrap ((↑y.i : Int) - (1 : Int)))).pl))).vl, y.steps, IntKind.i64.wrap (y.asked + (1 : Int)), y.W, y.rows⟩, ⟨rfl, rfl, rfl, t39 ⟨rfl, rfl, rfl, rfl, rfl, t40 ⟨rfl, t41 ⟨rfl, t5 ⟨(wN (by omega)), rfl, rfl, rfl, ⟨(mkBW (mkBase hpO hc (by first | omega | (simp only [List.length_append, List.length_cons, List.length_nil, List.length_set]; omega)) (by first | omega | (simp only [List.length_append, List.length_cons, List.length_nil, List.length_set]; omega)) (by first | omega | (simp only [List.length_append, List.length_cons, List.length_nil, List.length_set]; omega)) (by first | omega | (simp only [List.length_append, List.length_cons, List.length_nil, List.length_set]; omega)) hwd hrr) hnod), ⟨(show 1 ≤ y.i + 1 by omega), (show (i : Int) ≤ ((y.i + 1 : Nat) : Int) by omega)⟩⟩, (show 100 - (y.i + 1) < 100 - y.i by omega), trivial⟩⟩⟩⟩⟩⟩)
                                   · intro h22
                                     replace h22 := of_decide_eq_false h22
                                     first
                                     | (exfalso; omega)
                                     | (exact ⟨⟨y.n, y.i + 1, y.rd, y.rs, y.ws, y.xi, y.a, y.c, y.bk, (at3 y.ws (findT (Wr.mk (32 : Int) y.ws (filtT y.ws)).ls ((26 : Int) + (2 : Int) * (at2 p (IntKind.i64.wrap ((↑y.i : Int) - (1 : Int)))).pl))).vl, y.steps, IntKind.i64.wrap (y.asked + (1 : Int)), y.W, y.rows⟩, ⟨rfl, rfl, rfl, t39 ⟨rfl, rfl, rfl, rfl, rfl, t40 ⟨rfl, t41 ⟨rfl, t5 ⟨(wN (by omega)), rfl, rfl, rfl, ⟨(mkBW (mkBase hpO hc (by first | omega | (simp only [List.length_append, List.length_cons, List.length_nil, List.length_set]; omega)) (by first | omega | (simp only [List.length_append, List.length_cons, List.length_nil, List.length_set]; omega)) (by first | omega | (simp only [List.length_append, List.length_cons, List.length_nil, List.length_set]; omega)) (by first | omega | (simp only [List.length_append, List.length_cons, List.length_nil, List.length_set]; omega)) hwd hrr) hnod), ⟨(show 1 ≤ y.i + 1 by omega), (show (i : Int) ≤ ((y.i + 1 : Nat) : Int) by omega)⟩⟩, (show 100 - (y.i + 1) < 100 - y.i by omega), trivial⟩⟩⟩⟩⟩⟩))
                            · intro h23
                              have hno := no_find (of_decide_eq_false h23)
                              refine ⟨(And.intro rfl hpd), ?_, ?_⟩
                              · intro h24
                                replace h24 := of_decide_eq_true h24
                                first
                                | (exfalso; omega)
                                | (exact ⟨⟨y.n, y.i, y.rd, y.rs, y.ws, y.xi, y.a, y.c, y.bk, y.value, y.steps, IntKind.i64.wrap (y.asked + (1 : Int)), y.W, y.rows⟩, ⟨rfl, rfl, rfl, t39 ⟨rfl, rfl, rfl, rfl, rfl, t40 ⟨rfl, t43 ⟨rfl, rfl, rfl, t44 ⟨rfl, rfl, rfl, rfl, ⟨(mkBW hB hnod), ⟨(show 1 ≤ y.i by omega), (show (i : Int) ≤ ((y.i : Nat) : Int) by omega)⟩⟩, (show 100 - (y.i) < 100 - y.i by omega), trivial⟩⟩⟩⟩⟩⟩)
                              · intro h25
                                replace h25 := of_decide_eq_false h25
                                first
                                | (exfalso; omega)
                                | (refine ⟨(And.intro rfl (show y.rs.length < 32 by omega)), ?_⟩
                                   exact ⟨⟨y.n, y.i, y.rd, y.rs, y.ws, y.xi, (26 : Int) + (2 : Int) * (at2 p (IntKind.i64.wrap ((↑y.i : Int) - (1 : Int)))).pl, y.c, y.bk, y.value, y.steps, IntKind.i64.wrap (y.asked + (1 : Int)), y.W, y.rows⟩, ⟨rfl, rfl, rfl, t39 ⟨rfl, rfl, rfl, rfl, rfl, t40 ⟨rfl, t45 ⟨rfl, rfl, rfl, t5 ⟨rfl, t16 ⟨rfl, ⟨(mkBW hB hnod), ⟨mkRead (by omega) (by omega) hpd, (show (i : Int) ≤ ((y.i : Nat) : Int) by omega)⟩⟩, (show 1 < 100 - y.i by omega), trivial⟩⟩⟩⟩⟩⟩⟩))
                   · intro h26
                     have hpl := plan_at hpO (show 1 ≤ y.i by omega) (show y.i ≤ p.length by omega)
                     have hpd := data_of hpl.1 hpl.2
                     have hph := hash_in hpd
                     refine ⟨?_, ?_, (And.intro rfl (And.intro (show (0 : Int) ≤ (at2 p (IntKind.i64.wrap ((↑y.i : Int) - (1 : Int)))).pl from (plan_at hpO (by omega) (by omega)).1) (show (at2 p (IntKind.i64.wrap ((↑y.i : Int) - (1 : Int)))).pl < (4 : Int) from (plan_at hpO (by omega) (by omega)).2))), (show y.rd.length ≤ 1000 by omega), (And.intro rfl hpd), ?_, ?_⟩
                     · exact ⟨(by rw [wM (by omega)]; omega), (by rw [wM (by omega)]; omega)⟩
                     · exact ⟨(by rw [wM (by omega)]; omega), (by rw [wM (by omega)]; omega)⟩
                     · intro h27
                       replace h27 := of_decide_eq_true h27
                       first
                       | (exfalso; omega)
                       | (exact ⟨⟨y.n, y.i, y.rd, y.rs, y.ws, y.xi, y.a, y.c, y.bk, y.value, y.steps, y.asked, y.W, y.rows⟩, ⟨rfl, rfl, rfl, t39 ⟨rfl, rfl, rfl, rfl, rfl, t40 ⟨rfl, t43 ⟨rfl, rfl, rfl, t44 ⟨rfl, rfl, rfl, rfl, ⟨(mkBW hB hnod), ⟨(show 1 ≤ y.i by omega), (show (i : Int) ≤ ((y.i : Nat) : Int) by omega)⟩⟩, (show 100 - (y.i) < 100 - y.i by omega), trivial⟩⟩⟩⟩⟩⟩)
                     · intro h28
                       replace h28 := of_decide_eq_false h28
                       first
                       | (exfalso; omega)
                       | (refine ⟨?_, ?_⟩
                          · intro h29
                            replace h29 := of_decide_eq_true h29
                            first
                            | (exfalso; omega)
                            | (exact ⟨⟨y.n, y.i, y.rd, y.rs, y.ws, y.xi, y.a, y.c, y.bk, y.value, y.steps, y.asked, y.W, y.rows⟩, ⟨rfl, rfl, rfl, t39 ⟨rfl, rfl, rfl, rfl, rfl, t40 ⟨rfl, t43 ⟨rfl, rfl, rfl, t44 ⟨rfl, rfl, rfl, rfl, ⟨(mkBW hB hnod), ⟨(show 1 ≤ y.i by omega), (show (i : Int) ≤ ((y.i : Nat) : Int) by omega)⟩⟩, (show 100 - (y.i) < 100 - y.i by omega), trivial⟩⟩⟩⟩⟩⟩)
                          · intro h30
                            replace h30 := of_decide_eq_false h30
                            first
                            | (exfalso; omega)
                            | (refine ⟨(And.intro (show y.ws.length ≤ 1000 by omega) (And.intro hpd rfl)), ?_, ?_⟩
                               · intro h31
                                 have hf0 := of_decide_eq_true h31
                                 have hf1 := find_ub hf0
                                 refine ⟨?_, ?_, ?_, ?_⟩
                                 · exact ⟨hf0, hf1⟩
                                 · exact ⟨hf0, hf1⟩
                                 · intro h32
                                   replace h32 := of_decide_eq_true h32
                                   first
                                   | (exfalso; omega)
                                   | (exact ⟨⟨y.n, y.i, y.rd, y.rs, y.ws.set (findT (Wr.mk (32 : Int) y.ws (filtT y.ws)).ls ((26 : Int) + (2 : Int) * (at2 p (IntKind.i64.wrap ((↑y.i : Int) - (1 : Int)))).pl)).toNat (Wo.mk (at3 y.ws (findT (Wr.mk (32 : Int) y.ws (filtT y.ws)).ls ((26 : Int) + (2 : Int) * (at2 p (IntKind.i64.wrap ((↑y.i : Int) - (1 : Int)))).pl))).pl (valT (Rl.mk y.rd).ls (Op.mk (at2 p (IntKind.i64.wrap ((↑y.i : Int) - (1 : Int)))).kd (at2 p (IntKind.i64.wrap ((↑y.i : Int) - (1 : Int)))).pl (at2 p (IntKind.i64.wrap ((↑y.i : Int) - (1 : Int)))).vl))), y.xi, y.a, y.c, y.bk, y.value, y.steps, y.asked, y.W, y.rows⟩, ⟨rfl, rfl, rfl, t39 ⟨rfl, rfl, rfl, (filt_same (set_pl hf0 hf1 _)), rfl, t40 ⟨rfl, t41 ⟨rfl, t5 ⟨rfl, rfl, rfl, rfl, ⟨(mkBW (mkBase hpO hc (by first | omega | (simp only [List.length_append, List.length_cons, List.length_nil, List.length_set]; omega)) (by first | omega | (simp only [List.length_append, List.length_cons, List.length_nil, List.length_set]; omega)) (by first | omega | (simp only [List.length_append, List.length_cons, List.length_nil, List.length_set]; omega)) (by first | omega | (simp only [List.length_append, List.length_cons, List.length_nil, List.length_set]; omega)) (mem_map (set_pl hf0 hf1 _) hwd) hrr) (nod_set hnod (set_pl hf0 hf1 _))), ⟨(show 1 ≤ y.i by omega), (show (i : Int) ≤ ((y.i : Nat) : Int) by omega)⟩⟩, (show 100 - (y.i) < 100 - y.i by omega), trivial⟩⟩⟩⟩⟩⟩)
                                 · intro h33
                                   replace h33 := of_decide_eq_false h33
                                   first
                                   | (exfalso; omega)
                                   | (refine ⟨?_, ?_⟩
                                      · intro h34
                                        replace h34 := of_decide_eq_true h34
                                        first
                                        | (exfalso; omega)
                                        | (refine ⟨?_, ?_, ?_, ?_⟩
                                           · exact ⟨(by rw [wM (by omega)]; omega), (by rw [wM (by omega)]; omega)⟩
                                           · exact ⟨(by rw [wM (by omega)]; omega), (by rw [wM (by omega)]; omega)⟩
                                           · intro h35
                                             have hpl := plan_at hpO (show 1 ≤ y.i by omega) (show y.i ≤ p.length by omega)
                                             have hpd := data_of hpl.1 hpl.2
                                             have hph := hash_in hpd
                                             refine ⟨?_, ?_, (by simp only [List.length_cons, List.length_nil, tak_len] at *; first | omega | (have := rows_take rows hr8 xi (by omega); have := rows_len _ this; omega)), ?_⟩
                                             · exact ⟨(by rw [wM (by omega)]; omega), (by rw [wM (by omega)]; omega)⟩
                                             · exact ⟨(by rw [wM (by omega)]; omega), (by rw [wM (by omega)]; omega)⟩
                                             · exact ⟨⟨y.n, y.i + 1, y.rd ++ [Wo.mk (at2 p (IntKind.i64.wrap ((↑y.i : Int) - (1 : Int)))).pl y.value], y.rs, y.ws.set (findT (Wr.mk (32 : Int) y.ws (filtT y.ws)).ls ((26 : Int) + (2 : Int) * (at2 p (IntKind.i64.wrap ((↑y.i : Int) - (1 : Int)))).pl)).toNat (Wo.mk (at3 y.ws (findT (Wr.mk (32 : Int) y.ws (filtT y.ws)).ls ((26 : Int) + (2 : Int) * (at2 p (IntKind.i64.wrap ((↑y.i : Int) - (1 : Int)))).pl))).pl (valT (Rl.mk y.rd).ls (Op.mk (at2 p (IntKind.i64.wrap ((↑y.i : Int) - (1 : Int)))).kd (at2 p (IntKind.i64.wrap ((↑y.i : Int) - (1 : Int)))).pl (at2 p (IntKind.i64.wrap ((↑y.i : Int) - (1 : Int)))).vl))), y.xi, y.a, y.c, y.bk, y.value, y.steps, y.asked, y.W, y.rows⟩, ⟨rfl, rfl, rfl, t39 ⟨rfl, rfl, rfl, (filt_same (set_pl hf0 hf1 _)), rfl, t40 ⟨rfl, t41 ⟨rfl, t5 ⟨(wN (by omega)), rfl, rfl, rfl, ⟨(mkBW (mkBase hpO hc (by first | omega | (simp only [List.length_append, List.length_cons, List.length_nil, List.length_set]; omega)) (by first | omega | (simp only [List.length_append, List.length_cons, List.length_nil, List.length_set]; omega)) (by first | omega | (simp only [List.length_append, List.length_cons, List.length_nil, List.length_set]; omega)) (by first | omega | (simp only [List.length_append, List.length_cons, List.length_nil, List.length_set]; omega)) (mem_map (set_pl hf0 hf1 _) hwd) hrr) (nod_set hnod (set_pl hf0 hf1 _))), ⟨(show 1 ≤ y.i + 1 by omega), (show (i : Int) ≤ ((y.i + 1 : Nat) : Int) by omega)⟩⟩, (show 100 - (y.i + 1) < 100 - y.i by omega), trivial⟩⟩⟩⟩⟩⟩
                                           · intro h36
                                             have hpl := plan_at hpO (show 1 ≤ y.i by omega) (show y.i ≤ p.length by omega)
                                             have hpd := data_of hpl.1 hpl.2
                                             have hph := hash_in hpd
                                             exact ⟨⟨y.n, y.i + 1, y.rd, y.rs, y.ws.set (findT (Wr.mk (32 : Int) y.ws (filtT y.ws)).ls ((26 : Int) + (2 : Int) * (at2 p (IntKind.i64.wrap ((↑y.i : Int) - (1 : Int)))).pl)).toNat (Wo.mk (at3 y.ws (findT (Wr.mk (32 : Int) y.ws (filtT y.ws)).ls ((26 : Int) + (2 : Int) * (at2 p (IntKind.i64.wrap ((↑y.i : Int) - (1 : Int)))).pl))).pl (valT (Rl.mk y.rd).ls (Op.mk (at2 p (IntKind.i64.wrap ((↑y.i : Int) - (1 : Int)))).kd (at2 p (IntKind.i64.wrap ((↑y.i : Int) - (1 : Int)))).pl (at2 p (IntKind.i64.wrap ((↑y.i : Int) - (1 : Int)))).vl))), y.xi, y.a, y.c, y.bk, y.value, y.steps, y.asked, y.W, y.rows⟩, ⟨rfl, rfl, rfl, t39 ⟨rfl, rfl, rfl, (filt_same (set_pl hf0 hf1 _)), rfl, t40 ⟨rfl, t41 ⟨rfl, t5 ⟨(wN (by omega)), rfl, rfl, rfl, ⟨(mkBW (mkBase hpO hc (by first | omega | (simp only [List.length_append, List.length_cons, List.length_nil, List.length_set]; omega)) (by first | omega | (simp only [List.length_append, List.length_cons, List.length_nil, List.length_set]; omega)) (by first | omega | (simp only [List.length_append, List.length_cons, List.length_nil, List.length_set]; omega)) (by first | omega | (simp only [List.length_append, List.length_cons, List.length_nil, List.length_set]; omega)) (mem_map (set_pl hf0 hf1 _) hwd) hrr) (nod_set hnod (set_pl hf0 hf1 _))), ⟨(show 1 ≤ y.i + 1 by omega), (show (i : Int) ≤ ((y.i + 1 : Nat) : Int) by omega)⟩⟩, (show 100 - (y.i + 1) < 100 - y.i by omega), trivial⟩⟩⟩⟩⟩⟩)
                                      · intro h37
                                        replace h37 := of_decide_eq_false h37
                                        first
                                        | (exfalso; omega)
                                        | (exact ⟨⟨y.n, y.i + 1, y.rd, y.rs, y.ws.set (findT (Wr.mk (32 : Int) y.ws (filtT y.ws)).ls ((26 : Int) + (2 : Int) * (at2 p (IntKind.i64.wrap ((↑y.i : Int) - (1 : Int)))).pl)).toNat (Wo.mk (at3 y.ws (findT (Wr.mk (32 : Int) y.ws (filtT y.ws)).ls ((26 : Int) + (2 : Int) * (at2 p (IntKind.i64.wrap ((↑y.i : Int) - (1 : Int)))).pl))).pl (valT (Rl.mk y.rd).ls (Op.mk (at2 p (IntKind.i64.wrap ((↑y.i : Int) - (1 : Int)))).kd (at2 p (IntKind.i64.wrap ((↑y.i : Int) - (1 : Int)))).pl (at2 p (IntKind.i64.wrap ((↑y.i : Int) - (1 : Int)))).vl))), y.xi, y.a, y.c, y.bk, y.value, y.steps, y.asked, y.W, y.rows⟩, ⟨rfl, rfl, rfl, t39 ⟨rfl, rfl, rfl, (filt_same (set_pl hf0 hf1 _)), rfl, t40 ⟨rfl, t41 ⟨rfl, t5 ⟨(wN (by omega)), rfl, rfl, rfl, ⟨(mkBW (mkBase hpO hc (by first | omega | (simp only [List.length_append, List.length_cons, List.length_nil, List.length_set]; omega)) (by first | omega | (simp only [List.length_append, List.length_cons, List.length_nil, List.length_set]; omega)) (by first | omega | (simp only [List.length_append, List.length_cons, List.length_nil, List.length_set]; omega)) (by first | omega | (simp only [List.length_append, List.length_cons, List.length_nil, List.length_set]; omega)) (mem_map (set_pl hf0 hf1 _) hwd) hrr) (nod_set hnod (set_pl hf0 hf1 _))), ⟨(show 1 ≤ y.i + 1 by omega), (show (i : Int) ≤ ((y.i + 1 : Nat) : Int) by omega)⟩⟩, (show 100 - (y.i + 1) < 100 - y.i by omega), trivial⟩⟩⟩⟩⟩⟩))
                               · intro h38
                                 have hno := no_find (of_decide_eq_false h38)
                                 refine ⟨?_, ?_⟩
                                 · intro h39
                                   replace h39 := of_decide_eq_true h39
                                   first
                                   | (exfalso; omega)
                                   | (exact ⟨⟨y.n, y.i, y.rd, y.rs, y.ws, y.xi, y.a, y.c, y.bk, y.value, y.steps, y.asked, y.W, y.rows⟩, ⟨rfl, rfl, rfl, t39 ⟨rfl, rfl, rfl, rfl, rfl, t40 ⟨rfl, t43 ⟨rfl, rfl, rfl, t44 ⟨rfl, rfl, rfl, rfl, ⟨(mkBW hB hnod), ⟨(show 1 ≤ y.i by omega), (show (i : Int) ≤ ((y.i : Nat) : Int) by omega)⟩⟩, (show 100 - (y.i) < 100 - y.i by omega), trivial⟩⟩⟩⟩⟩⟩)
                                 · intro h40
                                   replace h40 := of_decide_eq_false h40
                                   first
                                   | (exfalso; omega)
                                   | (refine ⟨(by simp only [List.length_cons, List.length_nil, tak_len] at *; first | omega | (have := rows_take rows hr8 xi (by omega); have := rows_len _ this; omega)), hpd, ?_, ?_⟩
                                      · intro h41
                                        replace h41 := of_decide_eq_true h41
                                        first
                                        | (exfalso; omega)
                                        | (exact ⟨⟨y.n, y.i, y.rd, y.rs, y.ws ++ [Wo.mk ((26 : Int) + (2 : Int) * (at2 p (IntKind.i64.wrap ((↑y.i : Int) - (1 : Int)))).pl) (valT (Rl.mk y.rd).ls (Op.mk (at2 p (IntKind.i64.wrap ((↑y.i : Int) - (1 : Int)))).kd (at2 p (IntKind.i64.wrap ((↑y.i : Int) - (1 : Int)))).pl (at2 p (IntKind.i64.wrap ((↑y.i : Int) - (1 : Int)))).vl))], y.xi, y.a, y.c, y.bk, y.value, y.steps, y.asked, y.W, y.rows⟩, ⟨rfl, rfl, rfl, t39 ⟨rfl, rfl, rfl, (filt_or _ _ _ hpd rfl), rfl, t40 ⟨rfl, t41 ⟨rfl, t5 ⟨rfl, rfl, rfl, rfl, ⟨(mkBW (mkBase hpO hc (by first | omega | (simp only [List.length_append, List.length_cons, List.length_nil, List.length_set]; omega)) (by first | omega | (simp only [List.length_append, List.length_cons, List.length_nil, List.length_set]; omega)) (by first | omega | (simp only [List.length_append, List.length_cons, List.length_nil, List.length_set]; omega)) (by first | omega | (simp only [List.length_append, List.length_cons, List.length_nil, List.length_set]; omega)) (mem_snoc hwd hpd) hrr) (nod_snoc hnod hno)), ⟨(show 1 ≤ y.i by omega), (show (i : Int) ≤ ((y.i : Nat) : Int) by omega)⟩⟩, (show 100 - (y.i) < 100 - y.i by omega), trivial⟩⟩⟩⟩⟩⟩)
                                      · intro h42
                                        replace h42 := of_decide_eq_false h42
                                        first
                                        | (exfalso; omega)
                                        | (refine ⟨?_, ?_⟩
                                           · intro h43
                                             replace h43 := of_decide_eq_true h43
                                             first
                                             | (exfalso; omega)
                                             | (refine ⟨?_, ?_, ?_, ?_⟩
                                                · exact ⟨(by rw [wM (by omega)]; omega), (by rw [wM (by omega)]; omega)⟩
                                                · exact ⟨(by rw [wM (by omega)]; omega), (by rw [wM (by omega)]; omega)⟩
                                                · intro h44
                                                  have hpl := plan_at hpO (show 1 ≤ y.i by omega) (show y.i ≤ p.length by omega)
                                                  have hpd := data_of hpl.1 hpl.2
                                                  have hph := hash_in hpd
                                                  refine ⟨?_, ?_, (by simp only [List.length_cons, List.length_nil, tak_len] at *; first | omega | (have := rows_take rows hr8 xi (by omega); have := rows_len _ this; omega)), ?_⟩
                                                  · exact ⟨(by rw [wM (by omega)]; omega), (by rw [wM (by omega)]; omega)⟩
                                                  · exact ⟨(by rw [wM (by omega)]; omega), (by rw [wM (by omega)]; omega)⟩
                                                  · exact ⟨⟨y.n, y.i + 1, y.rd ++ [Wo.mk (at2 p (IntKind.i64.wrap ((↑y.i : Int) - (1 : Int)))).pl y.value], y.rs, y.ws ++ [Wo.mk ((26 : Int) + (2 : Int) * (at2 p (IntKind.i64.wrap ((↑y.i : Int) - (1 : Int)))).pl) (valT (Rl.mk y.rd).ls (Op.mk (at2 p (IntKind.i64.wrap ((↑y.i : Int) - (1 : Int)))).kd (at2 p (IntKind.i64.wrap ((↑y.i : Int) - (1 : Int)))).pl (at2 p (IntKind.i64.wrap ((↑y.i : Int) - (1 : Int)))).vl))], y.xi, y.a, y.c, y.bk, y.value, y.steps, y.asked, y.W, y.rows⟩, ⟨rfl, rfl, rfl, t39 ⟨rfl, rfl, rfl, (filt_or _ _ _ hpd rfl), rfl, t40 ⟨rfl, t41 ⟨rfl, t5 ⟨(wN (by omega)), rfl, rfl, rfl, ⟨(mkBW (mkBase hpO hc (by first | omega | (simp only [List.length_append, List.length_cons, List.length_nil, List.length_set]; omega)) (by first | omega | (simp only [List.length_append, List.length_cons, List.length_nil, List.length_set]; omega)) (by first | omega | (simp only [List.length_append, List.length_cons, List.length_nil, List.length_set]; omega)) (by first | omega | (simp only [List.length_append, List.length_cons, List.length_nil, List.length_set]; omega)) (mem_snoc hwd hpd) hrr) (nod_snoc hnod hno)), ⟨(show 1 ≤ y.i + 1 by omega), (show (i : Int) ≤ ((y.i + 1 : Nat) : Int) by omega)⟩⟩, (show 100 - (y.i + 1) < 100 - y.i by omega), trivial⟩⟩⟩⟩⟩⟩
                                                · intro h45
                                                  have hpl := plan_at hpO (show 1 ≤ y.i by omega) (show y.i ≤ p.length by omega)
                                                  have hpd := data_of hpl.1 hpl.2
                                                  have hph := hash_in hpd
                                                  exact ⟨⟨y.n, y.i + 1, y.rd, y.rs, y.ws ++ [Wo.mk ((26 : Int) + (2 : Int) * (at2 p (IntKind.i64.wrap ((↑y.i : Int) - (1 : Int)))).pl) (valT (Rl.mk y.rd).ls (Op.mk (at2 p (IntKind.i64.wrap ((↑y.i : Int) - (1 : Int)))).kd (at2 p (IntKind.i64.wrap ((↑y.i : Int) - (1 : Int)))).pl (at2 p (IntKind.i64.wrap ((↑y.i : Int) - (1 : Int)))).vl))], y.xi, y.a, y.c, y.bk, y.value, y.steps, y.asked, y.W, y.rows⟩, ⟨rfl, rfl, rfl, t39 ⟨rfl, rfl, rfl, (filt_or _ _ _ hpd rfl), rfl, t40 ⟨rfl, t41 ⟨rfl, t5 ⟨(wN (by omega)), rfl, rfl, rfl, ⟨(mkBW (mkBase hpO hc (by first | omega | (simp only [List.length_append, List.length_cons, List.length_nil, List.length_set]; omega)) (by first | omega | (simp only [List.length_append, List.length_cons, List.length_nil, List.length_set]; omega)) (by first | omega | (simp only [List.length_append, List.length_cons, List.length_nil, List.length_set]; omega)) (by first | omega | (simp only [List.length_append, List.length_cons, List.length_nil, List.length_set]; omega)) (mem_snoc hwd hpd) hrr) (nod_snoc hnod hno)), ⟨(show 1 ≤ y.i + 1 by omega), (show (i : Int) ≤ ((y.i + 1 : Nat) : Int) by omega)⟩⟩, (show 100 - (y.i + 1) < 100 - y.i by omega), trivial⟩⟩⟩⟩⟩⟩)
                                           · intro h46
                                             replace h46 := of_decide_eq_false h46
                                             first
                                             | (exfalso; omega)
                                             | (exact ⟨⟨y.n, y.i + 1, y.rd, y.rs, y.ws ++ [Wo.mk ((26 : Int) + (2 : Int) * (at2 p (IntKind.i64.wrap ((↑y.i : Int) - (1 : Int)))).pl) (valT (Rl.mk y.rd).ls (Op.mk (at2 p (IntKind.i64.wrap ((↑y.i : Int) - (1 : Int)))).kd (at2 p (IntKind.i64.wrap ((↑y.i : Int) - (1 : Int)))).pl (at2 p (IntKind.i64.wrap ((↑y.i : Int) - (1 : Int)))).vl))], y.xi, y.a, y.c, y.bk, y.value, y.steps, y.asked, y.W, y.rows⟩, ⟨rfl, rfl, rfl, t39 ⟨rfl, rfl, rfl, (filt_or _ _ _ hpd rfl), rfl, t40 ⟨rfl, t41 ⟨rfl, t5 ⟨(wN (by omega)), rfl, rfl, rfl, ⟨(mkBW (mkBase hpO hc (by first | omega | (simp only [List.length_append, List.length_cons, List.length_nil, List.length_set]; omega)) (by first | omega | (simp only [List.length_append, List.length_cons, List.length_nil, List.length_set]; omega)) (by first | omega | (simp only [List.length_append, List.length_cons, List.length_nil, List.length_set]; omega)) (by first | omega | (simp only [List.length_append, List.length_cons, List.length_nil, List.length_set]; omega)) (mem_snoc hwd hpd) hrr) (nod_snoc hnod hno)), ⟨(show 1 ≤ y.i + 1 by omega), (show (i : Int) ≤ ((y.i + 1 : Nat) : Int) by omega)⟩⟩, (show 100 - (y.i + 1) < 100 - y.i by omega), trivial⟩⟩⟩⟩⟩⟩)))))))
       · intro y
         intro h47
         obtain ⟨⟨⟨hpO, hc, hi, hrd, hrs, hws, hwd, hrr⟩, hnod⟩, hI⟩ := h47
         have hB : ∀ {n xi : Nat} {a bk value steps asked : Int} {W rows : List Int}, baseI p ⟨n, y.i, y.rd, y.rs, y.ws, xi, a, y.c, bk, value, steps, asked, W, rows⟩ := mkBase hpO hc hi hrd hrs hws hwd hrr
         obtain ⟨⟨h1, h2, hd⟩, hi0⟩ := hI
         have hi0 : (i : Int) ≤ (y.i : Int) := hi0
         have hd : isData y.a := hd
         have hh := hash_in hd
         refine ⟨rfl, ?_, ?_⟩
         · intro h48
           cases h48
         · intro h49
           refine ⟨(And.intro rfl (And.intro (show (0 : Int) ≤ hashT y.a from hh.1) (show hashT y.a < (3 : Int) from hh.2))), (And.intro (show (0 : Int) ≤ (2 : Int) + hashT y.a from (by have := hh.1; omega)) (show (2 : Int) + hashT y.a < ((Mw.mk (wT (0 : Int) (0 : Int) (0 : Int) (0 : Int) (0 : Int))).ws.length : Int) from (show _ < (34 : Int) by have := hh.2; omega))), ?_, ?_, (And.intro (show at0 (wT (0 : Int) (0 : Int) (0 : Int) (0 : Int) (0 : Int)) ((2 : Int) + hashT y.a) = 0 from w0_s hh.1 hh.2) (Int.le_refl 0)), ?_⟩
           · exact ⟨(by have := hh.1; omega), (show _ < (34 : Int) by have := hh.2; omega)⟩
           · exact ⟨(by have := hh.1; omega), (show _ < (34 : Int) by have := hh.2; omega)⟩
           · exact ⟨⟨n + 1, y.i, y.rd, y.rs, y.ws, y.xi, y.a, y.c, y.bk, y.value, IntKind.i64.wrap (y.steps + (1 : Int)), y.asked, y.W, y.rows⟩, (t2 ⟨rfl, rfl, t8 ⟨rfl, t9 ⟨rfl, rfl, rfl, rfl, rfl, t15 ⟨rfl, rfl, (congrArg (AVal.int IntKind.i64) (w0_s hh.1 hh.2)), rfl, t5 ⟨rfl, rfl, t16 ⟨rfl, (wN (by omega)), ⟨⟨(mkBW hB hnod), (mkRead (by omega) (by omega) hd)⟩, (show (n + 1) + ((58 : Nat) + (5 : Nat) * ((10 : Nat) - (y.i))) ≤ 200 by omega)⟩, (mA hn2), trivial⟩⟩⟩⟩⟩⟩)⟩
       · intro y
         intro h50
         obtain ⟨⟨⟨hpO, hc, hi, hrd, hrs, hws, hwd, hrr⟩, hnod⟩, hI⟩ := h50
         have hB : ∀ {n xi : Nat} {a bk value steps asked : Int} {W rows : List Int}, baseI p ⟨n, y.i, y.rd, y.rs, y.ws, xi, a, y.c, bk, value, steps, asked, W, rows⟩ := mkBase hpO hc hi hrd hrs hws hwd hrr
         have he : y.i = p.length + 1 := hI
         refine ⟨rfl, ?_, ?_⟩
         · intro h51
           cases h51
         · intro h52
           refine ⟨(And.intro rfl (And.intro rfl rfl)), (And.intro (show (0 : Int) ≤ (13 : Int) from (by decide)) (show (13 : Int) < ((Mw.mk (wT (0 : Int) (0 : Int) (0 : Int) (0 : Int) (0 : Int))).ws.length : Int) from (show _ < ((34 : Nat) : Int) by decide))), ?_, ?_, ?_, ?_, ?_, ?_⟩
           · exact ⟨(by decide), (by decide)⟩
           · exact ⟨(by decide), (by decide)⟩
           · exact ⟨(by decide), (by decide)⟩
           · exact ⟨(by decide), (by decide)⟩
           · intro h53
             replace h53 := of_decide_eq_true h53
             first
             | (exfalso; omega)
             | (refine ⟨(show y.ws.length * (16 : Nat) ≤ (140737488355328 : Nat) by omega), (show y.ws.length ≤ 1000 by omega), (And.intro rfl (And.intro (show (List.map (fun (x : Wo) => x.pl) y.ws).length ≤ 1000 by rw [List.length_map]; omega) (fun x hx => by obtain ⟨q, hq, rfl⟩ := List.mem_map.1 hx; exact hwd q hq))), ?_, ?_⟩
                · intro h54
                  replace h54 := eq_of_beq h54
                  first
                  | (exfalso; omega)
                  | (refine ⟨?_, ?_⟩
                     · intro h55
                       replace h55 := of_decide_eq_true h55
                       first
                       | (exfalso; omega)
                       | (have hnil : rowsT (List.map (fun (x : Wo) => x.pl) y.ws) = [] := List.eq_nil_of_length_eq_zero (by omega)
                          exact ⟨⟨n + 1, y.i, y.rd, y.rs, y.ws, y.xi, y.a, y.c, (1 : Int), y.value, IntKind.i64.wrap (y.steps + (1 : Int)), y.asked, y.W, rowsT (List.map (fun (x : Wo) => x.pl) y.ws)⟩, (t2 ⟨(by rw [hnil]; rfl), rfl, t8 ⟨rfl, t9 ⟨rfl, rfl, rfl, rfl, rfl, t18 ⟨rfl, t19 ⟨rfl, t20 ⟨rfl, (by rw [hnil]; rfl), rfl, rfl, rfl, t16 ⟨rfl, (wN (by omega)), ⟨⟨(mkBW hB hnod), ⟨⟨(show y.i = p.length + 1 by omega), (fun e => absurd (congrArg List.length (show y.ws = [] from e)) (by simp only [List.length_nil]; omega)), rfl, (.inl rfl)⟩, trivial⟩⟩, (show (n + 1) + ((45 : Nat)) ≤ 200 by omega)⟩, (mA hn2), trivial⟩⟩⟩⟩⟩⟩⟩)⟩)
                     · intro h56
                       replace h56 := of_decide_eq_false h56
                       first
                       | (exfalso; omega)
                       | (exact ⟨⟨n + 1, y.i, y.rd, y.rs, y.ws, 0, y.a, y.c, (1 : Int), y.value, IntKind.i64.wrap (y.steps + (1 : Int)), y.asked, y.W, rowsT (List.map (fun (x : Wo) => x.pl) y.ws)⟩, (t2 ⟨rfl, rfl, t8 ⟨rfl, t9 ⟨rfl, rfl, rfl, rfl, rfl, t21 ⟨rfl, rfl, t19 ⟨rfl, t20 ⟨rfl, rfl, rfl, rfl, rfl, t16 ⟨rfl, (wN (by omega)), ⟨⟨(mkBW hB hnod), ⟨⟨(show y.i = p.length + 1 by omega), (fun e => absurd (congrArg List.length (show y.ws = [] from e)) (by simp only [List.length_nil]; omega)), rfl, (.inl rfl)⟩, (show (0) < (rowsT (List.map (fun (x : Wo) => x.pl) y.ws)).length by first | omega | (simp only [List.length_map] at *; omega))⟩⟩, (show (n + 1) + ((55 : Nat) - (2 : Nat) * (0)) ≤ 200 by omega)⟩, (mA hn2), trivial⟩⟩⟩⟩⟩⟩⟩)⟩))
                · intro h57
                  replace h57 := ne_of_beq_false h57
                  first
                  | (exfalso; omega)
                  | (refine ⟨?_, ?_⟩
                     · intro h58
                       replace h58 := eq_of_beq h58
                       first
                       | (exfalso; omega)
                       | (refine ⟨?_, ?_⟩
                          · intro h59
                            replace h59 := of_decide_eq_true h59
                            first
                            | (exfalso; omega)
                            | (have hnil : rowsT (List.map (fun (x : Wo) => x.pl) y.ws) = [] := List.eq_nil_of_length_eq_zero (by omega)
                               exact ⟨⟨n + 1, y.i, y.rd, y.rs, y.ws, y.xi, y.a, y.c, (2 : Int), y.value, IntKind.i64.wrap (y.steps + (1 : Int)), y.asked, y.W, rowsT (List.map (fun (x : Wo) => x.pl) y.ws)⟩, (t2 ⟨(by rw [hnil]; rfl), rfl, t8 ⟨rfl, t9 ⟨rfl, rfl, rfl, rfl, rfl, t18 ⟨rfl, t19 ⟨rfl, t20 ⟨rfl, (by rw [hnil]; rfl), rfl, rfl, rfl, t16 ⟨rfl, (wN (by omega)), ⟨⟨(mkBW hB hnod), ⟨⟨(show y.i = p.length + 1 by omega), (fun e => absurd (congrArg List.length (show y.ws = [] from e)) (by simp only [List.length_nil]; omega)), rfl, (.inr rfl)⟩, trivial⟩⟩, (show (n + 1) + ((45 : Nat)) ≤ 200 by omega)⟩, (mA hn2), trivial⟩⟩⟩⟩⟩⟩⟩)⟩)
                          · intro h60
                            replace h60 := of_decide_eq_false h60
                            first
                            | (exfalso; omega)
                            | (exact ⟨⟨n + 1, y.i, y.rd, y.rs, y.ws, 0, y.a, y.c, (2 : Int), y.value, IntKind.i64.wrap (y.steps + (1 : Int)), y.asked, y.W, rowsT (List.map (fun (x : Wo) => x.pl) y.ws)⟩, (t2 ⟨rfl, rfl, t8 ⟨rfl, t9 ⟨rfl, rfl, rfl, rfl, rfl, t21 ⟨rfl, rfl, t19 ⟨rfl, t20 ⟨rfl, rfl, rfl, rfl, rfl, t16 ⟨rfl, (wN (by omega)), ⟨⟨(mkBW hB hnod), ⟨⟨(show y.i = p.length + 1 by omega), (fun e => absurd (congrArg List.length (show y.ws = [] from e)) (by simp only [List.length_nil]; omega)), rfl, (.inr rfl)⟩, (show (0) < (rowsT (List.map (fun (x : Wo) => x.pl) y.ws)).length by first | omega | (simp only [List.length_map] at *; omega))⟩⟩, (show (n + 1) + ((55 : Nat) - (2 : Nat) * (0)) ≤ 200 by omega)⟩, (mA hn2), trivial⟩⟩⟩⟩⟩⟩⟩)⟩))
                     · intro h61
                       replace h61 := ne_of_beq_false h61
                       first
                       | (exfalso; omega)
                       | (refine ⟨?_, ?_⟩
                          · intro h62
                            replace h62 := of_decide_eq_true h62
                            first
                            | (exfalso; omega)
                            | (have hnil : rowsT (List.map (fun (x : Wo) => x.pl) y.ws) = [] := List.eq_nil_of_length_eq_zero (by omega)
                               exact ⟨⟨n + 1, y.i, y.rd, y.rs, y.ws, y.xi, y.a, y.c, (0 : Int), y.value, IntKind.i64.wrap (y.steps + (1 : Int)), y.asked, y.W, rowsT (List.map (fun (x : Wo) => x.pl) y.ws)⟩, (t2 ⟨(by rw [hnil]; rfl), rfl, t8 ⟨rfl, t9 ⟨rfl, rfl, rfl, rfl, rfl, t18 ⟨rfl, t19 ⟨rfl, t20 ⟨rfl, (by rw [hnil]; rfl), rfl, rfl, rfl, t16 ⟨rfl, (wN (by omega)), ⟨⟨(mkBW hB hnod), ⟨⟨(show y.i = p.length + 1 by omega), (fun e => absurd (congrArg List.length (show y.ws = [] from e)) (by simp only [List.length_nil]; omega)), rfl, hbk⟩, trivial⟩⟩, (show (n + 1) + ((45 : Nat)) ≤ 200 by omega)⟩, (mA hn2), trivial⟩⟩⟩⟩⟩⟩⟩)⟩)
                          · intro h63
                            replace h63 := of_decide_eq_false h63
                            first
                            | (exfalso; omega)
                            | (exact ⟨⟨n + 1, y.i, y.rd, y.rs, y.ws, 0, y.a, y.c, (0 : Int), y.value, IntKind.i64.wrap (y.steps + (1 : Int)), y.asked, y.W, rowsT (List.map (fun (x : Wo) => x.pl) y.ws)⟩, (t2 ⟨rfl, rfl, t8 ⟨rfl, t9 ⟨rfl, rfl, rfl, rfl, rfl, t21 ⟨rfl, rfl, t19 ⟨rfl, t20 ⟨rfl, rfl, rfl, rfl, rfl, t16 ⟨rfl, (wN (by omega)), ⟨⟨(mkBW hB hnod), ⟨⟨(show y.i = p.length + 1 by omega), (fun e => absurd (congrArg List.length (show y.ws = [] from e)) (by simp only [List.length_nil]; omega)), rfl, hbk⟩, (show (0) < (rowsT (List.map (fun (x : Wo) => x.pl) y.ws)).length by first | omega | (simp only [List.length_map] at *; omega))⟩⟩, (show (n + 1) + ((55 : Nat) - (2 : Nat) * (0)) ≤ 200 by omega)⟩, (mA hn2), trivial⟩⟩⟩⟩⟩⟩⟩)⟩))))
           · intro h64
             replace h64 := of_decide_eq_false h64
             first
             | (exfalso; omega)
             | (refine ⟨?_, ?_⟩
                · intro h65
                  replace h65 := of_decide_eq_true h65
                  first
                  | (exfalso; omega)
                  | (omega)
                · intro h66
                  replace h66 := of_decide_eq_false h66
                  first
                  | (exfalso; omega)
                  | (exact ⟨⟨n + 1, y.i, y.rd, y.rs, y.ws, y.xi, (0 : Int), y.c, y.bk, y.value, IntKind.i64.wrap (y.steps + (1 : Int)), y.asked, (wT (0 : Int) (0 : Int) (0 : Int) (0 : Int) (0 : Int)).set (13 : Nat) (2 : Int), y.rows⟩, (t2 ⟨rfl, rfl, t7 ⟨rfl, rfl, rfl, rfl, rfl, t23 ⟨rfl, rfl, rfl, rfl, rfl, t16 ⟨rfl, (wN (by omega)), ⟨⟨(mkBW hB hnod), ⟨⟨(show y.i = p.length + 1 by omega), (by first | rfl | exact hW | (simp only [List.length_set]; first | rfl | exact hW))⟩, (leave_nil rfl (show y.ws = [] from List.eq_nil_of_length_eq_zero (by omega)))⟩⟩, (show (n + 1) + ((10 : Nat)) ≤ 200 by omega)⟩, (mA hn2), trivial⟩⟩⟩⟩)⟩))
       · exact ⟨⟨n, i, rd, rs, ws, xi, a, c, bk, value, steps, asked, W, rows⟩, ⟨rfl, rfl, rfl, t39 ⟨rfl, rfl, rfl, rfl, rfl, t40 ⟨rfl, t41 ⟨rfl, t5 ⟨rfl, t46 ⟨rfl, ⟨(mkBW hB hnod), ⟨(show 1 ≤ i by omega), (show (i : Int) ≤ ((i : Nat) : Int) by omega)⟩⟩, trivial⟩⟩⟩⟩⟩⟩⟩)
  · intro h67
    exact absurd (of_decide_eq_false h67) (by omega)
end Go.Proofs.Ytmjjljngaefpaaa

/- GuardWoken: what its own text owes is paid. Printed by a program (gen_gl.py). -/
import Derived.Test.YtomlcdalhihnaaaGv
namespace Go.Proofs.Ytomlcdalhihnaaa
open Go.RowKit Go.Am Go.Sy
set_option linter.unusedVariables false
set_option linter.unusedSimpArgs false

theorem lw_e (l : List Cl) (ab : List Bool) : Go.Sy.Tree.holds (entryX F (lookC qL) 300 Try.f4 bL (lwF l ab) [.tl (T := T) 2 l, .tl (T := T) 1 ab]) = ( (decide ((↑l.length : Int) > 40) = true → true = true ∧ True) ∧
 (decide ((↑l.length : Int) > 40) = false → (decide ((↑ab.length : Int) > 40) = true → true = true ∧ True) ∧ (decide ((↑ab.length : Int) > 40) = false → ∃ (s : LS), l = l ∧ ab = ab ∧ [] = aL l ab s.i ∧ [] = oL s.i ∧ [] =
 s.q0 ∧ [] = s.q1 ∧ [] = s.q2 ∧ (0 : Int) = s.w0 ∧ (0 : Int) = s.w1 ∧ (0 : Int) = s.w2 ∧ (0 : Int) = s.w3 ∧ (0 : Int) = (↑s.i : Int) ∧ I1 l ab s ∧ True))) := by kernel_rfl
theorem lw_8 (l : List Cl) (ab : List Bool) (x : LS) : Go.Sy.Tree.holds (cutVC F (lookC qL) 300 Try.f4 bL (lwF l ab) 8 (c1 l ab) x) = ( (decide ((↑x.i : Int) < (↑l.length : Int)) = true → ((0 : Int) ≤ (↑x.i : Int) ∧ (↑x.i
 : Int) < (↑l.length : Int)) ∧ ((0 : Int) ≤ (↑x.i : Int) ∧ (↑x.i : Int) < (↑l.length : Int)) ∧ ((0 : Int) ≤ (↑x.i : Int) ∧ (↑x.i : Int) < (↑l.length : Int)) ∧ ((0 : Int) ≤ (IntKind.u64.wrap (at2 l (↑x.i : Int)).ki).tmod 3
 ∧ (IntKind.u64.wrap (at2 l (↑x.i : Int)).ki).tmod 3 < 3) ∧ (((IntKind.u64.wrap (at2 l (↑x.i : Int)).ki).tmod 3 == 2) = true → ∃ (b : Bool), (b = true → ∃ (s : LS), l = l ∧ ab = ab ∧ aL l ab x.i = aL l ab s.i ∧ oL x.i =
 oL s.i ∧ x.q0 = s.q0 ∧ x.q1 = s.q1 ∧ x.q2 = s.q2 ∧ x.w0 = s.w0 ∧ x.w1 = s.w1 ∧ x.w2 = s.w2 ∧ x.w3 = s.w3 ∧ (↑x.i : Int) = (↑s.i : Int) ∧ IntKind.i64.wrap ((IntKind.u64.wrap (at2 l (↑x.i : Int)).th).tmod 4) = thL l s.i ∧
 AVal.int IntKind.i64 (IntKind.i64.wrap ((IntKind.u64.wrap (at2 l (↑x.i : Int)).co).tmod 3)) = AVal.int IntKind.i64 (0 : Int) ∧ (14 : Int) = kd (at2 l (↑s.i : Int)).ki ∧ IntKind.i64.wrap ((IntKind.u64.wrap (at2 l (↑x.i :
 Int)).th).tmod 4) = thL l s.i ∧ IntKind.i64.wrap ((↑x.i : Int) + 1) = IntKind.i64.wrap ((↑s.i : Int) + 1) ∧ false = false ∧ (0 : Int) = 0 ∧ (0 : Int) = 0 ∧ (6 : Int) = 6 ∧ (0 : Int) = 0 ∧ (0 : Int) = 0 ∧ ([] : List Wo) =
 [] ∧ ([] : List Wo) = [] ∧ ([] : List Int) = [] ∧ [Wo.mk (IntKind.i64.wrap ((IntKind.u64.wrap (at2 l (↑x.i : Int)).co).tmod 3)) (14 : Int)] = [Wo.mk (0 : Int) (kd (at2 l (↑s.i : Int)).ki)] ∧ I2 l ab (0 : Int) s ∧
 (l.length - s.i - 1) * 10000 + 9000 < (l.length - x.i) * 10000 ∧ True) ∧ (b = false → ∃ (b : Bool), (b = true → ∃ (s : LS), l = l ∧ ab = ab ∧ aL l ab x.i = aL l ab s.i ∧ oL x.i = oL s.i ∧ x.q0 = s.q0 ∧ x.q1 = s.q1 ∧ x.q2
 = s.q2 ∧ x.w0 = s.w0 ∧ x.w1 = s.w1 ∧ x.w2 = s.w2 ∧ x.w3 = s.w3 ∧ (↑x.i : Int) = (↑s.i : Int) ∧ IntKind.i64.wrap ((IntKind.u64.wrap (at2 l (↑x.i : Int)).th).tmod 4) = thL l s.i ∧ AVal.int IntKind.i64 (IntKind.i64.wrap
 ((IntKind.u64.wrap (at2 l (↑x.i : Int)).co).tmod 3)) = AVal.int IntKind.i64 (1 : Int) ∧ (14 : Int) = kd (at2 l (↑s.i : Int)).ki ∧ IntKind.i64.wrap ((IntKind.u64.wrap (at2 l (↑x.i : Int)).th).tmod 4) = thL l s.i ∧
 IntKind.i64.wrap ((↑x.i : Int) + 1) = IntKind.i64.wrap ((↑s.i : Int) + 1) ∧ false = false ∧ (0 : Int) = 0 ∧ (0 : Int) = 0 ∧ (6 : Int) = 6 ∧ (0 : Int) = 0 ∧ (0 : Int) = 0 ∧ ([] : List Wo) = [] ∧ ([] : List Wo) = [] ∧ ([]
 : List Int) = [] ∧ [Wo.mk (IntKind.i64.wrap ((IntKind.u64.wrap (at2 l (↑x.i : Int)).co).tmod 3)) (14 : Int)] = [Wo.mk (1 : Int) (kd (at2 l (↑s.i : Int)).ki)] ∧ I2 l ab (1 : Int) s ∧ (l.length - s.i - 1) * 10000 + 9000 <
 (l.length - x.i) * 10000 ∧ True) ∧ (b = false → ∃ (s : LS), l = l ∧ ab = ab ∧ aL l ab x.i = aL l ab s.i ∧ oL x.i = oL s.i ∧ x.q0 = s.q0 ∧ x.q1 = s.q1 ∧ x.q2 = s.q2 ∧ x.w0 = s.w0 ∧ x.w1 = s.w1 ∧ x.w2 = s.w2 ∧ x.w3 = s.w3
 ∧ (↑x.i : Int) = (↑s.i : Int) ∧ IntKind.i64.wrap ((IntKind.u64.wrap (at2 l (↑x.i : Int)).th).tmod 4) = thL l s.i ∧ AVal.int IntKind.i64 (IntKind.i64.wrap ((IntKind.u64.wrap (at2 l (↑x.i : Int)).co).tmod 3)) = AVal.int
 IntKind.i64 (2 : Int) ∧ (14 : Int) = kd (at2 l (↑s.i : Int)).ki ∧ IntKind.i64.wrap ((IntKind.u64.wrap (at2 l (↑x.i : Int)).th).tmod 4) = thL l s.i ∧ IntKind.i64.wrap ((↑x.i : Int) + 1) = IntKind.i64.wrap ((↑s.i : Int) +
 1) ∧ false = false ∧ (0 : Int) = 0 ∧ (0 : Int) = 0 ∧ (6 : Int) = 6 ∧ (0 : Int) = 0 ∧ (0 : Int) = 0 ∧ ([] : List Wo) = [] ∧ ([] : List Wo) = [] ∧ ([] : List Int) = [] ∧ [Wo.mk (IntKind.i64.wrap ((IntKind.u64.wrap (at2 l
 (↑x.i : Int)).co).tmod 3)) (14 : Int)] = [Wo.mk (2 : Int) (kd (at2 l (↑s.i : Int)).ki)] ∧ I2 l ab (2 : Int) s ∧ (l.length - s.i - 1) * 10000 + 9000 < (l.length - x.i) * 10000 ∧ True))) ∧ (((IntKind.u64.wrap (at2 l (↑x.i
 : Int)).ki).tmod 3 == 2) = false → (((IntKind.u64.wrap (at2 l (↑x.i : Int)).ki).tmod 3 == 1) = true → ∃ (b : Bool), (b = true → ∃ (s : LS), l = l ∧ ab = ab ∧ aL l ab x.i = aL l ab s.i ∧ oL x.i = oL s.i ∧ x.q0 = s.q0 ∧
 x.q1 = s.q1 ∧ x.q2 = s.q2 ∧ x.w0 = s.w0 ∧ x.w1 = s.w1 ∧ x.w2 = s.w2 ∧ x.w3 = s.w3 ∧ (↑x.i : Int) = (↑s.i : Int) ∧ IntKind.i64.wrap ((IntKind.u64.wrap (at2 l (↑x.i : Int)).th).tmod 4) = thL l s.i ∧ AVal.int IntKind.i64
 (IntKind.i64.wrap ((IntKind.u64.wrap (at2 l (↑x.i : Int)).co).tmod 3)) = AVal.int IntKind.i64 (0 : Int) ∧ (13 : Int) = kd (at2 l (↑s.i : Int)).ki ∧ IntKind.i64.wrap ((IntKind.u64.wrap (at2 l (↑x.i : Int)).th).tmod 4) =
 thL l s.i ∧ IntKind.i64.wrap ((↑x.i : Int) + 1) = IntKind.i64.wrap ((↑s.i : Int) + 1) ∧ false = false ∧ (0 : Int) = 0 ∧ (0 : Int) = 0 ∧ (6 : Int) = 6 ∧ (0 : Int) = 0 ∧ (0 : Int) = 0 ∧ ([] : List Wo) = [] ∧ ([] : List Wo)
 = [] ∧ ([] : List Int) = [] ∧ [Wo.mk (IntKind.i64.wrap ((IntKind.u64.wrap (at2 l (↑x.i : Int)).co).tmod 3)) (13 : Int)] = [Wo.mk (0 : Int) (kd (at2 l (↑s.i : Int)).ki)] ∧ I2 l ab (0 : Int) s ∧ (l.length - s.i - 1) *
 10000 + 9000 < (l.length - x.i) * 10000 ∧ True) ∧ (b = false → ∃ (b : Bool), (b = true → ∃ (s : LS), l = l ∧ ab = ab ∧ aL l ab x.i = aL l ab s.i ∧ oL x.i = oL s.i ∧ x.q0 = s.q0 ∧ x.q1 = s.q1 ∧ x.q2 = s.q2 ∧ x.w0 = s.w0 ∧
 x.w1 = s.w1 ∧ x.w2 = s.w2 ∧ x.w3 = s.w3 ∧ (↑x.i : Int) = (↑s.i : Int) ∧ IntKind.i64.wrap ((IntKind.u64.wrap (at2 l (↑x.i : Int)).th).tmod 4) = thL l s.i ∧ AVal.int IntKind.i64 (IntKind.i64.wrap ((IntKind.u64.wrap (at2 l
 (↑x.i : Int)).co).tmod 3)) = AVal.int IntKind.i64 (1 : Int) ∧ (13 : Int) = kd (at2 l (↑s.i : Int)).ki ∧ IntKind.i64.wrap ((IntKind.u64.wrap (at2 l (↑x.i : Int)).th).tmod 4) = thL l s.i ∧ IntKind.i64.wrap ((↑x.i : Int) +
 1) = IntKind.i64.wrap ((↑s.i : Int) + 1) ∧ false = false ∧ (0 : Int) = 0 ∧ (0 : Int) = 0 ∧ (6 : Int) = 6 ∧ (0 : Int) = 0 ∧ (0 : Int) = 0 ∧ ([] : List Wo) = [] ∧ ([] : List Wo) = [] ∧ ([] : List Int) = [] ∧ [Wo.mk
 (IntKind.i64.wrap ((IntKind.u64.wrap (at2 l (↑x.i : Int)).co).tmod 3)) (13 : Int)] = [Wo.mk (1 : Int) (kd (at2 l (↑s.i : Int)).ki)] ∧ I2 l ab (1 : Int) s ∧ (l.length - s.i - 1) * 10000 + 9000 < (l.length - x.i) * 10000 ∧
 True) ∧ (b = false → ∃ (s : LS), l = l ∧ ab = ab ∧ aL l ab x.i = aL l ab s.i ∧ oL x.i = oL s.i ∧ x.q0 = s.q0 ∧ x.q1 = s.q1 ∧ x.q2 = s.q2 ∧ x.w0 = s.w0 ∧ x.w1 = s.w1 ∧ x.w2 = s.w2 ∧ x.w3 = s.w3 ∧ (↑x.i : Int) = (↑s.i :
 Int) ∧ IntKind.i64.wrap ((IntKind.u64.wrap (at2 l (↑x.i : Int)).th).tmod 4) = thL l s.i ∧ AVal.int IntKind.i64 (IntKind.i64.wrap ((IntKind.u64.wrap (at2 l (↑x.i : Int)).co).tmod 3)) = AVal.int IntKind.i64 (2 : Int) ∧ (13
 : Int) = kd (at2 l (↑s.i : Int)).ki ∧ IntKind.i64.wrap ((IntKind.u64.wrap (at2 l (↑x.i : Int)).th).tmod 4) = thL l s.i ∧ IntKind.i64.wrap ((↑x.i : Int) + 1) = IntKind.i64.wrap ((↑s.i : Int) + 1) ∧ false = false ∧ (0 :
 Int) = 0 ∧ (0 : Int) = 0 ∧ (6 : Int) = 6 ∧ (0 : Int) = 0 ∧ (0 : Int) = 0 ∧ ([] : List Wo) = [] ∧ ([] : List Wo) = [] ∧ ([] : List Int) = [] ∧ [Wo.mk (IntKind.i64.wrap ((IntKind.u64.wrap (at2 l (↑x.i : Int)).co).tmod 3))
 (13 : Int)] = [Wo.mk (2 : Int) (kd (at2 l (↑s.i : Int)).ki)] ∧ I2 l ab (2 : Int) s ∧ (l.length - s.i - 1) * 10000 + 9000 < (l.length - x.i) * 10000 ∧ True))) ∧ (((IntKind.u64.wrap (at2 l (↑x.i : Int)).ki).tmod 3 == 1) =
 false → ∃ (b : Bool), (b = true → ∃ (s : LS), l = l ∧ ab = ab ∧ aL l ab x.i = aL l ab s.i ∧ oL x.i = oL s.i ∧ x.q0 = s.q0 ∧ x.q1 = s.q1 ∧ x.q2 = s.q2 ∧ x.w0 = s.w0 ∧ x.w1 = s.w1 ∧ x.w2 = s.w2 ∧ x.w3 = s.w3 ∧ (↑x.i : Int)
 = (↑s.i : Int) ∧ IntKind.i64.wrap ((IntKind.u64.wrap (at2 l (↑x.i : Int)).th).tmod 4) = thL l s.i ∧ AVal.int IntKind.i64 (IntKind.i64.wrap ((IntKind.u64.wrap (at2 l (↑x.i : Int)).co).tmod 3)) = AVal.int IntKind.i64 (0 :
 Int) ∧ (10 : Int) = kd (at2 l (↑s.i : Int)).ki ∧ IntKind.i64.wrap ((IntKind.u64.wrap (at2 l (↑x.i : Int)).th).tmod 4) = thL l s.i ∧ IntKind.i64.wrap ((↑x.i : Int) + 1) = IntKind.i64.wrap ((↑s.i : Int) + 1) ∧ false =
 false ∧ (0 : Int) = 0 ∧ (0 : Int) = 0 ∧ (6 : Int) = 6 ∧ (0 : Int) = 0 ∧ (0 : Int) = 0 ∧ ([] : List Wo) = [] ∧ ([] : List Wo) = [] ∧ ([] : List Int) = [] ∧ [Wo.mk (IntKind.i64.wrap ((IntKind.u64.wrap (at2 l (↑x.i :
 Int)).co).tmod 3)) (10 : Int)] = [Wo.mk (0 : Int) (kd (at2 l (↑s.i : Int)).ki)] ∧ I2 l ab (0 : Int) s ∧ (l.length - s.i - 1) * 10000 + 9000 < (l.length - x.i) * 10000 ∧ True) ∧ (b = false → ∃ (b : Bool), (b = true → ∃ (s
 : LS), l = l ∧ ab = ab ∧ aL l ab x.i = aL l ab s.i ∧ oL x.i = oL s.i ∧ x.q0 = s.q0 ∧ x.q1 = s.q1 ∧ x.q2 = s.q2 ∧ x.w0 = s.w0 ∧ x.w1 = s.w1 ∧ x.w2 = s.w2 ∧ x.w3 = s.w3 ∧ (↑x.i : Int) = (↑s.i : Int) ∧ IntKind.i64.wrap
 ((IntKind.u64.wrap (at2 l (↑x.i : Int)).th).tmod 4) = thL l s.i ∧ AVal.int IntKind.i64 (IntKind.i64.wrap ((IntKind.u64.wrap (at2 l (↑x.i : Int)).co).tmod 3)) = AVal.int IntKind.i64 (1 : Int) ∧ (10 : Int) = kd (at2 l
 (↑s.i : Int)).ki ∧ IntKind.i64.wrap ((IntKind.u64.wrap (at2 l (↑x.i : Int)).th).tmod 4) = thL l s.i ∧ IntKind.i64.wrap ((↑x.i : Int) + 1) = IntKind.i64.wrap ((↑s.i : Int) + 1) ∧ false = false ∧ (0 : Int) = 0 ∧ (0 : Int)
 = 0 ∧ (6 : Int) = 6 ∧ (0 : Int) = 0 ∧ (0 : Int) = 0 ∧ ([] : List Wo) = [] ∧ ([] : List Wo) = [] ∧ ([] : List Int) = [] ∧ [Wo.mk (IntKind.i64.wrap ((IntKind.u64.wrap (at2 l (↑x.i : Int)).co).tmod 3)) (10 : Int)] = [Wo.mk
 (1 : Int) (kd (at2 l (↑s.i : Int)).ki)] ∧ I2 l ab (1 : Int) s ∧ (l.length - s.i - 1) * 10000 + 9000 < (l.length - x.i) * 10000 ∧ True) ∧ (b = false → ∃ (s : LS), l = l ∧ ab = ab ∧ aL l ab x.i = aL l ab s.i ∧ oL x.i = oL
 s.i ∧ x.q0 = s.q0 ∧ x.q1 = s.q1 ∧ x.q2 = s.q2 ∧ x.w0 = s.w0 ∧ x.w1 = s.w1 ∧ x.w2 = s.w2 ∧ x.w3 = s.w3 ∧ (↑x.i : Int) = (↑s.i : Int) ∧ IntKind.i64.wrap ((IntKind.u64.wrap (at2 l (↑x.i : Int)).th).tmod 4) = thL l s.i ∧
 AVal.int IntKind.i64 (IntKind.i64.wrap ((IntKind.u64.wrap (at2 l (↑x.i : Int)).co).tmod 3)) = AVal.int IntKind.i64 (2 : Int) ∧ (10 : Int) = kd (at2 l (↑s.i : Int)).ki ∧ IntKind.i64.wrap ((IntKind.u64.wrap (at2 l (↑x.i :
 Int)).th).tmod 4) = thL l s.i ∧ IntKind.i64.wrap ((↑x.i : Int) + 1) = IntKind.i64.wrap ((↑s.i : Int) + 1) ∧ false = false ∧ (0 : Int) = 0 ∧ (0 : Int) = 0 ∧ (6 : Int) = 6 ∧ (0 : Int) = 0 ∧ (0 : Int) = 0 ∧ ([] : List Wo) =
 [] ∧ ([] : List Wo) = [] ∧ ([] : List Int) = [] ∧ [Wo.mk (IntKind.i64.wrap ((IntKind.u64.wrap (at2 l (↑x.i : Int)).co).tmod 3)) (10 : Int)] = [Wo.mk (2 : Int) (kd (at2 l (↑s.i : Int)).ki)] ∧ I2 l ab (2 : Int) s ∧
 (l.length - s.i - 1) * 10000 + 9000 < (l.length - x.i) * 10000 ∧ True))))) ∧ (decide ((↑x.i : Int) < (↑l.length : Int)) = false → wkD.pre (aL l ab x.i, oL x.i, (4 : Int), ()) ∧ itD.pre (wokenF (aL l ab x.i) (oL x.i) (4 :
 Int), [x.w0, x.w1, x.w2, x.w3], ()) ∧ ((wokenF (aL l ab x.i) (oL x.i) (4 : Int) == [x.w0, x.w1, x.w2, x.w3]) = true → wkD.pre (aL l ab x.i, oL x.i, (2 : Int), ()) ∧ (((↑(wokenF (aL l ab x.i) (oL x.i) (2 : Int)).length :
 Int) == 2) = true → wkD.pre (aL l ab x.i, [], (9 : Int), ()) ∧ (((↑(wokenF (aL l ab x.i) [] (9 : Int)).length : Int) == 4) = true → wkD.pre (aL l ab x.i, oL x.i, (-1 : Int), ()) ∧ ((↑(wokenF (aL l ab x.i) (oL x.i) (-1 :
 Int)).length : Int) == 0) = true ∧ True) ∧ (((↑(wokenF (aL l ab x.i) [] (9 : Int)).length : Int) == 4) = false → false = true ∧ True)) ∧ (((↑(wokenF (aL l ab x.i) (oL x.i) (2 : Int)).length : Int) == 2) = false → false =
 true ∧ True)) ∧ ((wokenF (aL l ab x.i) (oL x.i) (4 : Int) == [x.w0, x.w1, x.w2, x.w3]) = false → false = true ∧ True))) := by kernel_rfl
theorem lw_130 (l : List Cl) (ab : List Bool) (x : LS) : Go.Sy.Tree.holds (cutVC F (lookC qL) 300 Try.f4 bL (lwF l ab) 13 (c2 l ab 0) x) = ( (decide ((↑x.i : Int) < (↑ab.length : Int)) = true → ((0 : Int) ≤ (↑x.i : Int) ∧
 (↑x.i : Int) < (↑ab.length : Int)) ∧ (at1 ab (↑x.i : Int) = true → ((aL l ab x.i).length + [Att.mk (thL l x.i) (IntKind.i64.wrap ((↑x.i : Int) + 1)) false (0 : Int) (0 : Int) (7 : Int) (0 : Int) (0 : Int) [] [] [] [Wo.mk
 (0 : Int) (kd (at2 l (↑x.i : Int)).ki)]].length) * 160 ≤ 140737488355328 ∧ ((oL x.i).length + [(↑x.i : Int)].length) * 8 ≤ 140737488355328 ∧ ∃ (s : LS), l = l ∧ ab = ab ∧ aL l ab x.i ++ [Att.mk (thL l x.i)
 (IntKind.i64.wrap ((↑x.i : Int) + 1)) false (0 : Int) (0 : Int) (7 : Int) (0 : Int) (0 : Int) [] [] [] [Wo.mk (0 : Int) (kd (at2 l (↑x.i : Int)).ki)]] = aL l ab s.i ∧ oL x.i ++ [(↑x.i : Int)] = oL s.i ∧ x.q0 = s.q0 ∧
 x.q1 = s.q1 ∧ x.q2 = s.q2 ∧ x.w0 = s.w0 ∧ x.w1 = s.w1 ∧ x.w2 = s.w2 ∧ x.w3 = s.w3 ∧ IntKind.i64.wrap ((↑x.i : Int) + 1) = (↑s.i : Int) ∧ I1 l ab s ∧ (l.length - s.i) * 10000 < (l.length - x.i - 1) * 10000 + 9000 ∧ True)
 ∧ (at1 ab (↑x.i : Int) = false → ((aL l ab x.i).length + [Att.mk (thL l x.i) (IntKind.i64.wrap ((↑x.i : Int) + 1)) false (0 : Int) (0 : Int) (6 : Int) (0 : Int) (0 : Int) [] [] [] [Wo.mk (0 : Int) (kd (at2 l (↑x.i :
 Int)).ki)]].length) * 160 ≤ 140737488355328 ∧ ((oL x.i).length + [(↑x.i : Int)].length) * 8 ≤ 140737488355328 ∧ (false = true → ∃ (s : LS), l = l ∧ ab = ab ∧ aL l ab x.i ++ [Att.mk (thL l x.i) (IntKind.i64.wrap ((↑x.i :
 Int) + 1)) false (0 : Int) (0 : Int) (6 : Int) (0 : Int) (0 : Int) [] [] [] [Wo.mk (0 : Int) (kd (at2 l (↑x.i : Int)).ki)]] = aL l ab s.i ∧ oL x.i ++ [(↑x.i : Int)] = oL s.i ∧ x.q0 = s.q0 ∧ x.q1 = s.q1 ∧ x.q2 = s.q2 ∧
 x.w0 = s.w0 ∧ x.w1 = s.w1 ∧ x.w2 = s.w2 ∧ x.w3 = s.w3 ∧ IntKind.i64.wrap ((↑x.i : Int) + 1) = (↑s.i : Int) ∧ I1 l ab s ∧ (l.length - s.i) * 10000 < (l.length - x.i - 1) * 10000 + 9000 ∧ True) ∧ (false = false → ((kd (at2
 l (↑x.i : Int)).ki == 10) = true → (x.q0.length + [thL l x.i].length) * 8 ≤ 140737488355328 ∧ ∃ (b : Bool), (b = true → ∃ (s : LS), l = l ∧ ab = ab ∧ aL l ab x.i ++ [Att.mk (thL l x.i) (IntKind.i64.wrap ((↑x.i : Int) +
 1)) false (0 : Int) (0 : Int) (6 : Int) (0 : Int) (0 : Int) [] [] [] [Wo.mk (0 : Int) (kd (at2 l (↑x.i : Int)).ki)]] = aL l ab (s.i + 1) ∧ oL x.i ++ [(↑x.i : Int)] = oL (s.i + 1) ∧ x.q0 ++ [thL l x.i] = s.q0 ∧ x.q1 =
 s.q1 ∧ x.q2 = s.q2 ∧ x.w0 = s.w0 ∧ x.w1 = s.w1 ∧ x.w2 = s.w2 ∧ x.w3 = s.w3 ∧ (↑x.i : Int) = (↑s.i : Int) ∧ AVal.int IntKind.i64 (0 : Int) = AVal.int IntKind.i64 (0 : Int) ∧ (0 : Int) = s.n ∧ (0 : Int) = s.j ∧ I3 l ab (0
 : Int) s ∧ (l.length - s.i - 1) * 10000 + 1 + (s.n - s.j).toNat < (l.length - x.i - 1) * 10000 + 9000 ∧ True) ∧ (b = false → ∃ (b : Bool), (b = true → ∃ (s : LS), l = l ∧ ab = ab ∧ aL l ab x.i ++ [Att.mk (thL l x.i)
 (IntKind.i64.wrap ((↑x.i : Int) + 1)) false (0 : Int) (0 : Int) (6 : Int) (0 : Int) (0 : Int) [] [] [] [Wo.mk (0 : Int) (kd (at2 l (↑x.i : Int)).ki)]] = aL l ab (s.i + 1) ∧ oL x.i ++ [(↑x.i : Int)] = oL (s.i + 1) ∧ x.q0
 ++ [thL l x.i] = s.q0 ∧ x.q1 = s.q1 ∧ x.q2 = s.q2 ∧ x.w0 = s.w0 ∧ x.w1 = s.w1 ∧ x.w2 = s.w2 ∧ x.w3 = s.w3 ∧ (↑x.i : Int) = (↑s.i : Int) ∧ AVal.int IntKind.i64 (0 : Int) = AVal.int IntKind.i64 (1 : Int) ∧ (0 : Int) = s.n
 ∧ (0 : Int) = s.j ∧ I3 l ab (1 : Int) s ∧ (l.length - s.i - 1) * 10000 + 1 + (s.n - s.j).toNat < (l.length - x.i - 1) * 10000 + 9000 ∧ True) ∧ (b = false → ∃ (s : LS), l = l ∧ ab = ab ∧ aL l ab x.i ++ [Att.mk (thL l x.i)
 (IntKind.i64.wrap ((↑x.i : Int) + 1)) false (0 : Int) (0 : Int) (6 : Int) (0 : Int) (0 : Int) [] [] [] [Wo.mk (0 : Int) (kd (at2 l (↑x.i : Int)).ki)]] = aL l ab (s.i + 1) ∧ oL x.i ++ [(↑x.i : Int)] = oL (s.i + 1) ∧ x.q0
 ++ [thL l x.i] = s.q0 ∧ x.q1 = s.q1 ∧ x.q2 = s.q2 ∧ x.w0 = s.w0 ∧ x.w1 = s.w1 ∧ x.w2 = s.w2 ∧ x.w3 = s.w3 ∧ (↑x.i : Int) = (↑s.i : Int) ∧ AVal.int IntKind.i64 (0 : Int) = AVal.int IntKind.i64 (2 : Int) ∧ (0 : Int) = s.n
 ∧ (0 : Int) = s.j ∧ I3 l ab (2 : Int) s ∧ (l.length - s.i - 1) * 10000 + 1 + (s.n - s.j).toNat < (l.length - x.i - 1) * 10000 + 9000 ∧ True))) ∧ ((kd (at2 l (↑x.i : Int)).ki == 10) = false → ((kd (at2 l (↑x.i : Int)).ki
 == 13) = true → ∃ (b : Bool), (b = true → ∃ (s : LS), l = l ∧ ab = ab ∧ aL l ab x.i ++ [Att.mk (thL l x.i) (IntKind.i64.wrap ((↑x.i : Int) + 1)) false (0 : Int) (0 : Int) (6 : Int) (0 : Int) (0 : Int) [] [] [] [Wo.mk (0
 : Int) (kd (at2 l (↑x.i : Int)).ki)]] = aL l ab (s.i + 1) ∧ oL x.i ++ [(↑x.i : Int)] = oL (s.i + 1) ∧ x.q0 = s.q0 ∧ x.q1 = s.q1 ∧ x.q2 = s.q2 ∧ x.w0 = s.w0 ∧ x.w1 = s.w1 ∧ x.w2 = s.w2 ∧ x.w3 = s.w3 ∧ (↑x.i : Int) = (↑s.i
 : Int) ∧ AVal.int IntKind.i64 (0 : Int) = AVal.int IntKind.i64 (0 : Int) ∧ (bif false then if (1 : Int) < (↑x.q0.length : Int) then (↑x.q0.length : Int) else (1 : Int) else if (↑x.q0.length : Int) < 1 then (↑x.q0.length
 : Int) else (1 : Int)) = s.n ∧ (0 : Int) = s.j ∧ I3 l ab (0 : Int) s ∧ (l.length - s.i - 1) * 10000 + 1 + (s.n - s.j).toNat < (l.length - x.i - 1) * 10000 + 9000 ∧ True) ∧ (b = false → ∃ (b : Bool), (b = true → ∃ (s :
 LS), l = l ∧ ab = ab ∧ aL l ab x.i ++ [Att.mk (thL l x.i) (IntKind.i64.wrap ((↑x.i : Int) + 1)) false (0 : Int) (0 : Int) (6 : Int) (0 : Int) (0 : Int) [] [] [] [Wo.mk (0 : Int) (kd (at2 l (↑x.i : Int)).ki)]] = aL l ab
 (s.i + 1) ∧ oL x.i ++ [(↑x.i : Int)] = oL (s.i + 1) ∧ x.q0 = s.q0 ∧ x.q1 = s.q1 ∧ x.q2 = s.q2 ∧ x.w0 = s.w0 ∧ x.w1 = s.w1 ∧ x.w2 = s.w2 ∧ x.w3 = s.w3 ∧ (↑x.i : Int) = (↑s.i : Int) ∧ AVal.int IntKind.i64 (0 : Int) =
 AVal.int IntKind.i64 (1 : Int) ∧ (bif false then if (1 : Int) < (↑x.q0.length : Int) then (↑x.q0.length : Int) else (1 : Int) else if (↑x.q0.length : Int) < 1 then (↑x.q0.length : Int) else (1 : Int)) = s.n ∧ (0 : Int) =
 s.j ∧ I3 l ab (1 : Int) s ∧ (l.length - s.i - 1) * 10000 + 1 + (s.n - s.j).toNat < (l.length - x.i - 1) * 10000 + 9000 ∧ True) ∧ (b = false → ∃ (s : LS), l = l ∧ ab = ab ∧ aL l ab x.i ++ [Att.mk (thL l x.i)
 (IntKind.i64.wrap ((↑x.i : Int) + 1)) false (0 : Int) (0 : Int) (6 : Int) (0 : Int) (0 : Int) [] [] [] [Wo.mk (0 : Int) (kd (at2 l (↑x.i : Int)).ki)]] = aL l ab (s.i + 1) ∧ oL x.i ++ [(↑x.i : Int)] = oL (s.i + 1) ∧ x.q0
 = s.q0 ∧ x.q1 = s.q1 ∧ x.q2 = s.q2 ∧ x.w0 = s.w0 ∧ x.w1 = s.w1 ∧ x.w2 = s.w2 ∧ x.w3 = s.w3 ∧ (↑x.i : Int) = (↑s.i : Int) ∧ AVal.int IntKind.i64 (0 : Int) = AVal.int IntKind.i64 (2 : Int) ∧ (bif false then if (1 : Int) <
 (↑x.q0.length : Int) then (↑x.q0.length : Int) else (1 : Int) else if (↑x.q0.length : Int) < 1 then (↑x.q0.length : Int) else (1 : Int)) = s.n ∧ (0 : Int) = s.j ∧ I3 l ab (2 : Int) s ∧ (l.length - s.i - 1) * 10000 + 1 +
 (s.n - s.j).toNat < (l.length - x.i - 1) * 10000 + 9000 ∧ True))) ∧ ((kd (at2 l (↑x.i : Int)).ki == 13) = false → ∃ (b : Bool), (b = true → ∃ (s : LS), l = l ∧ ab = ab ∧ aL l ab x.i ++ [Att.mk (thL l x.i)
 (IntKind.i64.wrap ((↑x.i : Int) + 1)) false (0 : Int) (0 : Int) (6 : Int) (0 : Int) (0 : Int) [] [] [] [Wo.mk (0 : Int) (kd (at2 l (↑x.i : Int)).ki)]] = aL l ab (s.i + 1) ∧ oL x.i ++ [(↑x.i : Int)] = oL (s.i + 1) ∧ x.q0
 = s.q0 ∧ x.q1 = s.q1 ∧ x.q2 = s.q2 ∧ x.w0 = s.w0 ∧ x.w1 = s.w1 ∧ x.w2 = s.w2 ∧ x.w3 = s.w3 ∧ (↑x.i : Int) = (↑s.i : Int) ∧ AVal.int IntKind.i64 (0 : Int) = AVal.int IntKind.i64 (0 : Int) ∧ (↑x.q0.length : Int) = s.n ∧ (0
 : Int) = s.j ∧ I3 l ab (0 : Int) s ∧ (l.length - s.i - 1) * 10000 + 1 + (s.n - s.j).toNat < (l.length - x.i - 1) * 10000 + 9000 ∧ True) ∧ (b = false → ∃ (b : Bool), (b = true → ∃ (s : LS), l = l ∧ ab = ab ∧ aL l ab x.i
 ++ [Att.mk (thL l x.i) (IntKind.i64.wrap ((↑x.i : Int) + 1)) false (0 : Int) (0 : Int) (6 : Int) (0 : Int) (0 : Int) [] [] [] [Wo.mk (0 : Int) (kd (at2 l (↑x.i : Int)).ki)]] = aL l ab (s.i + 1) ∧ oL x.i ++ [(↑x.i : Int)]
 = oL (s.i + 1) ∧ x.q0 = s.q0 ∧ x.q1 = s.q1 ∧ x.q2 = s.q2 ∧ x.w0 = s.w0 ∧ x.w1 = s.w1 ∧ x.w2 = s.w2 ∧ x.w3 = s.w3 ∧ (↑x.i : Int) = (↑s.i : Int) ∧ AVal.int IntKind.i64 (0 : Int) = AVal.int IntKind.i64 (1 : Int) ∧
 (↑x.q0.length : Int) = s.n ∧ (0 : Int) = s.j ∧ I3 l ab (1 : Int) s ∧ (l.length - s.i - 1) * 10000 + 1 + (s.n - s.j).toNat < (l.length - x.i - 1) * 10000 + 9000 ∧ True) ∧ (b = false → ∃ (s : LS), l = l ∧ ab = ab ∧ aL l ab
 x.i ++ [Att.mk (thL l x.i) (IntKind.i64.wrap ((↑x.i : Int) + 1)) false (0 : Int) (0 : Int) (6 : Int) (0 : Int) (0 : Int) [] [] [] [Wo.mk (0 : Int) (kd (at2 l (↑x.i : Int)).ki)]] = aL l ab (s.i + 1) ∧ oL x.i ++ [(↑x.i :
 Int)] = oL (s.i + 1) ∧ x.q0 = s.q0 ∧ x.q1 = s.q1 ∧ x.q2 = s.q2 ∧ x.w0 = s.w0 ∧ x.w1 = s.w1 ∧ x.w2 = s.w2 ∧ x.w3 = s.w3 ∧ (↑x.i : Int) = (↑s.i : Int) ∧ AVal.int IntKind.i64 (0 : Int) = AVal.int IntKind.i64 (2 : Int) ∧
 (↑x.q0.length : Int) = s.n ∧ (0 : Int) = s.j ∧ I3 l ab (2 : Int) s ∧ (l.length - s.i - 1) * 10000 + 1 + (s.n - s.j).toNat < (l.length - x.i - 1) * 10000 + 9000 ∧ True))))))) ∧ (decide ((↑x.i : Int) < (↑ab.length : Int))
 = false → ((aL l ab x.i).length + [Att.mk (thL l x.i) (IntKind.i64.wrap ((↑x.i : Int) + 1)) false (0 : Int) (0 : Int) (6 : Int) (0 : Int) (0 : Int) [] [] [] [Wo.mk (0 : Int) (kd (at2 l (↑x.i : Int)).ki)]].length) * 160 ≤
 140737488355328 ∧ ((oL x.i).length + [(↑x.i : Int)].length) * 8 ≤ 140737488355328 ∧ (false = true → ∃ (s : LS), l = l ∧ ab = ab ∧ aL l ab x.i ++ [Att.mk (thL l x.i) (IntKind.i64.wrap ((↑x.i : Int) + 1)) false (0 : Int)
 (0 : Int) (6 : Int) (0 : Int) (0 : Int) [] [] [] [Wo.mk (0 : Int) (kd (at2 l (↑x.i : Int)).ki)]] = aL l ab s.i ∧ oL x.i ++ [(↑x.i : Int)] = oL s.i ∧ x.q0 = s.q0 ∧ x.q1 = s.q1 ∧ x.q2 = s.q2 ∧ x.w0 = s.w0 ∧ x.w1 = s.w1 ∧
 x.w2 = s.w2 ∧ x.w3 = s.w3 ∧ IntKind.i64.wrap ((↑x.i : Int) + 1) = (↑s.i : Int) ∧ I1 l ab s ∧ (l.length - s.i) * 10000 < (l.length - x.i - 1) * 10000 + 9000 ∧ True) ∧ (false = false → ((kd (at2 l (↑x.i : Int)).ki == 10) =
 true → (x.q0.length + [thL l x.i].length) * 8 ≤ 140737488355328 ∧ ∃ (b : Bool), (b = true → ∃ (s : LS), l = l ∧ ab = ab ∧ aL l ab x.i ++ [Att.mk (thL l x.i) (IntKind.i64.wrap ((↑x.i : Int) + 1)) false (0 : Int) (0 : Int)
 (6 : Int) (0 : Int) (0 : Int) [] [] [] [Wo.mk (0 : Int) (kd (at2 l (↑x.i : Int)).ki)]] = aL l ab (s.i + 1) ∧ oL x.i ++ [(↑x.i : Int)] = oL (s.i + 1) ∧ x.q0 ++ [thL l x.i] = s.q0 ∧ x.q1 = s.q1 ∧ x.q2 = s.q2 ∧ x.w0 = s.w0
 ∧ x.w1 = s.w1 ∧ x.w2 = s.w2 ∧ x.w3 = s.w3 ∧ (↑x.i : Int) = (↑s.i : Int) ∧ AVal.int IntKind.i64 (0 : Int) = AVal.int IntKind.i64 (0 : Int) ∧ (0 : Int) = s.n ∧ (0 : Int) = s.j ∧ I3 l ab (0 : Int) s ∧ (l.length - s.i - 1) *
 10000 + 1 + (s.n - s.j).toNat < (l.length - x.i - 1) * 10000 + 9000 ∧ True) ∧ (b = false → ∃ (b : Bool), (b = true → ∃ (s : LS), l = l ∧ ab = ab ∧ aL l ab x.i ++ [Att.mk (thL l x.i) (IntKind.i64.wrap ((↑x.i : Int) + 1))
 false (0 : Int) (0 : Int) (6 : Int) (0 : Int) (0 : Int) [] [] [] [Wo.mk (0 : Int) (kd (at2 l (↑x.i : Int)).ki)]] = aL l ab (s.i + 1) ∧ oL x.i ++ [(↑x.i : Int)] = oL (s.i + 1) ∧ x.q0 ++ [thL l x.i] = s.q0 ∧ x.q1 = s.q1 ∧
 x.q2 = s.q2 ∧ x.w0 = s.w0 ∧ x.w1 = s.w1 ∧ x.w2 = s.w2 ∧ x.w3 = s.w3 ∧ (↑x.i : Int) = (↑s.i : Int) ∧ AVal.int IntKind.i64 (0 : Int) = AVal.int IntKind.i64 (1 : Int) ∧ (0 : Int) = s.n ∧ (0 : Int) = s.j ∧ I3 l ab (1 : Int)
 s ∧ (l.length - s.i - 1) * 10000 + 1 + (s.n - s.j).toNat < (l.length - x.i - 1) * 10000 + 9000 ∧ True) ∧ (b = false → ∃ (s : LS), l = l ∧ ab = ab ∧ aL l ab x.i ++ [Att.mk (thL l x.i) (IntKind.i64.wrap ((↑x.i : Int) + 1))
 false (0 : Int) (0 : Int) (6 : Int) (0 : Int) (0 : Int) [] [] [] [Wo.mk (0 : Int) (kd (at2 l (↑x.i : Int)).ki)]] = aL l ab (s.i + 1) ∧ oL x.i ++ [(↑x.i : Int)] = oL (s.i + 1) ∧ x.q0 ++ [thL l x.i] = s.q0 ∧ x.q1 = s.q1 ∧
 x.q2 = s.q2 ∧ x.w0 = s.w0 ∧ x.w1 = s.w1 ∧ x.w2 = s.w2 ∧ x.w3 = s.w3 ∧ (↑x.i : Int) = (↑s.i : Int) ∧ AVal.int IntKind.i64 (0 : Int) = AVal.int IntKind.i64 (2 : Int) ∧ (0 : Int) = s.n ∧ (0 : Int) = s.j ∧ I3 l ab (2 : Int)
 s ∧ (l.length - s.i - 1) * 10000 + 1 + (s.n - s.j).toNat < (l.length - x.i - 1) * 10000 + 9000 ∧ True))) ∧ ((kd (at2 l (↑x.i : Int)).ki == 10) = false → ((kd (at2 l (↑x.i : Int)).ki == 13) = true → ∃ (b : Bool), (b =
 true → ∃ (s : LS), l = l ∧ ab = ab ∧ aL l ab x.i ++ [Att.mk (thL l x.i) (IntKind.i64.wrap ((↑x.i : Int) + 1)) false (0 : Int) (0 : Int) (6 : Int) (0 : Int) (0 : Int) [] [] [] [Wo.mk (0 : Int) (kd (at2 l (↑x.i :
 Int)).ki)]] = aL l ab (s.i + 1) ∧ oL x.i ++ [(↑x.i : Int)] = oL (s.i + 1) ∧ x.q0 = s.q0 ∧ x.q1 = s.q1 ∧ x.q2 = s.q2 ∧ x.w0 = s.w0 ∧ x.w1 = s.w1 ∧ x.w2 = s.w2 ∧ x.w3 = s.w3 ∧ (↑x.i : Int) = (↑s.i : Int) ∧ AVal.int
 IntKind.i64 (0 : Int) = AVal.int IntKind.i64 (0 : Int) ∧ (bif false then if (1 : Int) < (↑x.q0.length : Int) then (↑x.q0.length : Int) else (1 : Int) else if (↑x.q0.length : Int) < 1 then (↑x.q0.length : Int) else (1 :
 Int)) = s.n ∧ (0 : Int) = s.j ∧ I3 l ab (0 : Int) s ∧ (l.length - s.i - 1) * 10000 + 1 + (s.n - s.j).toNat < (l.length - x.i - 1) * 10000 + 9000 ∧ True) ∧ (b = false → ∃ (b : Bool), (b = true → ∃ (s : LS), l = l ∧ ab =
 ab ∧ aL l ab x.i ++ [Att.mk (thL l x.i) (IntKind.i64.wrap ((↑x.i : Int) + 1)) false (0 : Int) (0 : Int) (6 : Int) (0 : Int) (0 : Int) [] [] [] [Wo.mk (0 : Int) (kd (at2 l (↑x.i : Int)).ki)]] = aL l ab (s.i + 1) ∧ oL x.i
 ++ [(↑x.i : Int)] = oL (s.i + 1) ∧ x.q0 = s.q0 ∧ x.q1 = s.q1 ∧ x.q2 = s.q2 ∧ x.w0 = s.w0 ∧ x.w1 = s.w1 ∧ x.w2 = s.w2 ∧ x.w3 = s.w3 ∧ (↑x.i : Int) = (↑s.i : Int) ∧ AVal.int IntKind.i64 (0 : Int) = AVal.int IntKind.i64 (1
 : Int) ∧ (bif false then if (1 : Int) < (↑x.q0.length : Int) then (↑x.q0.length : Int) else (1 : Int) else if (↑x.q0.length : Int) < 1 then (↑x.q0.length : Int) else (1 : Int)) = s.n ∧ (0 : Int) = s.j ∧ I3 l ab (1 : Int)
 s ∧ (l.length - s.i - 1) * 10000 + 1 + (s.n - s.j).toNat < (l.length - x.i - 1) * 10000 + 9000 ∧ True) ∧ (b = false → ∃ (s : LS), l = l ∧ ab = ab ∧ aL l ab x.i ++ [Att.mk (thL l x.i) (IntKind.i64.wrap ((↑x.i : Int) + 1))
 false (0 : Int) (0 : Int) (6 : Int) (0 : Int) (0 : Int) [] [] [] [Wo.mk (0 : Int) (kd (at2 l (↑x.i : Int)).ki)]] = aL l ab (s.i + 1) ∧ oL x.i ++ [(↑x.i : Int)] = oL (s.i + 1) ∧ x.q0 = s.q0 ∧ x.q1 = s.q1 ∧ x.q2 = s.q2 ∧
 x.w0 = s.w0 ∧ x.w1 = s.w1 ∧ x.w2 = s.w2 ∧ x.w3 = s.w3 ∧ (↑x.i : Int) = (↑s.i : Int) ∧ AVal.int IntKind.i64 (0 : Int) = AVal.int IntKind.i64 (2 : Int) ∧ (bif false then if (1 : Int) < (↑x.q0.length : Int) then
 (↑x.q0.length : Int) else (1 : Int) else if (↑x.q0.length : Int) < 1 then (↑x.q0.length : Int) else (1 : Int)) = s.n ∧ (0 : Int) = s.j ∧ I3 l ab (2 : Int) s ∧ (l.length - s.i - 1) * 10000 + 1 + (s.n - s.j).toNat <
 (l.length - x.i - 1) * 10000 + 9000 ∧ True))) ∧ ((kd (at2 l (↑x.i : Int)).ki == 13) = false → ∃ (b : Bool), (b = true → ∃ (s : LS), l = l ∧ ab = ab ∧ aL l ab x.i ++ [Att.mk (thL l x.i) (IntKind.i64.wrap ((↑x.i : Int) +
 1)) false (0 : Int) (0 : Int) (6 : Int) (0 : Int) (0 : Int) [] [] [] [Wo.mk (0 : Int) (kd (at2 l (↑x.i : Int)).ki)]] = aL l ab (s.i + 1) ∧ oL x.i ++ [(↑x.i : Int)] = oL (s.i + 1) ∧ x.q0 = s.q0 ∧ x.q1 = s.q1 ∧ x.q2 = s.q2
 ∧ x.w0 = s.w0 ∧ x.w1 = s.w1 ∧ x.w2 = s.w2 ∧ x.w3 = s.w3 ∧ (↑x.i : Int) = (↑s.i : Int) ∧ AVal.int IntKind.i64 (0 : Int) = AVal.int IntKind.i64 (0 : Int) ∧ (↑x.q0.length : Int) = s.n ∧ (0 : Int) = s.j ∧ I3 l ab (0 : Int) s
 ∧ (l.length - s.i - 1) * 10000 + 1 + (s.n - s.j).toNat < (l.length - x.i - 1) * 10000 + 9000 ∧ True) ∧ (b = false → ∃ (b : Bool), (b = true → ∃ (s : LS), l = l ∧ ab = ab ∧ aL l ab x.i ++ [Att.mk (thL l x.i)
 (IntKind.i64.wrap ((↑x.i : Int) + 1)) false (0 : Int) (0 : Int) (6 : Int) (0 : Int) (0 : Int) [] [] [] [Wo.mk (0 : Int) (kd (at2 l (↑x.i : Int)).ki)]] = aL l ab (s.i + 1) ∧ oL x.i ++ [(↑x.i : Int)] = oL (s.i + 1) ∧ x.q0
 = s.q0 ∧ x.q1 = s.q1 ∧ x.q2 = s.q2 ∧ x.w0 = s.w0 ∧ x.w1 = s.w1 ∧ x.w2 = s.w2 ∧ x.w3 = s.w3 ∧ (↑x.i : Int) = (↑s.i : Int) ∧ AVal.int IntKind.i64 (0 : Int) = AVal.int IntKind.i64 (1 : Int) ∧ (↑x.q0.length : Int) = s.n ∧ (0
 : Int) = s.j ∧ I3 l ab (1 : Int) s ∧ (l.length - s.i - 1) * 10000 + 1 + (s.n - s.j).toNat < (l.length - x.i - 1) * 10000 + 9000 ∧ True) ∧ (b = false → ∃ (s : LS), l = l ∧ ab = ab ∧ aL l ab x.i ++ [Att.mk (thL l x.i)
 (IntKind.i64.wrap ((↑x.i : Int) + 1)) false (0 : Int) (0 : Int) (6 : Int) (0 : Int) (0 : Int) [] [] [] [Wo.mk (0 : Int) (kd (at2 l (↑x.i : Int)).ki)]] = aL l ab (s.i + 1) ∧ oL x.i ++ [(↑x.i : Int)] = oL (s.i + 1) ∧ x.q0
 = s.q0 ∧ x.q1 = s.q1 ∧ x.q2 = s.q2 ∧ x.w0 = s.w0 ∧ x.w1 = s.w1 ∧ x.w2 = s.w2 ∧ x.w3 = s.w3 ∧ (↑x.i : Int) = (↑s.i : Int) ∧ AVal.int IntKind.i64 (0 : Int) = AVal.int IntKind.i64 (2 : Int) ∧ (↑x.q0.length : Int) = s.n ∧ (0
 : Int) = s.j ∧ I3 l ab (2 : Int) s ∧ (l.length - s.i - 1) * 10000 + 1 + (s.n - s.j).toNat < (l.length - x.i - 1) * 10000 + 9000 ∧ True))))))) := by kernel_rfl
theorem lw_250 (l : List Cl) (ab : List Bool) (x : LS) : Go.Sy.Tree.holds (cutVC F (lookC qL) 300 Try.f4 bL (lwF l ab) 25 (c3 l ab 0) x) = ( (decide (x.j < x.n) = true → ((0 : Int) ≤ x.j ∧ x.j < (↑x.q0.length : Int)) ∧
 ((0 : Int) ≤ x.j ∧ x.j < (↑x.q0.length : Int)) ∧ ((0 : Int) ≤ at0 x.q0 x.j ∧ at0 x.q0 x.j < 4) ∧ ((at0 x.q0 x.j == 3) = true → ((0 : Int) ≤ at0 x.q0 x.j ∧ at0 x.q0 x.j < 4) ∧ ((at0 x.q0 x.j == 3) = true → ∃ (b : Bool),
 (b = true → ∃ (s : LS), l = l ∧ ab = ab ∧ aL l ab (x.i + 1) = aL l ab (s.i + 1) ∧ oL (x.i + 1) = oL (s.i + 1) ∧ x.q0 = s.q0 ∧ x.q1 = s.q1 ∧ x.q2 = s.q2 ∧ x.w0 = s.w0 ∧ x.w1 = s.w1 ∧ x.w2 = s.w2 ∧ IntKind.i64.wrap (x.w3 +
 1) = s.w3 ∧ (↑x.i : Int) = (↑s.i : Int) ∧ AVal.int IntKind.i64 (0 : Int) = AVal.int IntKind.i64 (0 : Int) ∧ x.n = s.n ∧ IntKind.i64.wrap (x.j + 1) = s.j ∧ I3 l ab (0 : Int) s ∧ (l.length - s.i - 1) * 10000 + 1 + (s.n -
 s.j).toNat < (l.length - x.i - 1) * 10000 + 1 + (x.n - x.j).toNat ∧ True) ∧ (b = false → ∃ (b : Bool), (b = true → ∃ (s : LS), l = l ∧ ab = ab ∧ aL l ab (x.i + 1) = aL l ab (s.i + 1) ∧ oL (x.i + 1) = oL (s.i + 1) ∧ x.q0
 = s.q0 ∧ x.q1 = s.q1 ∧ x.q2 = s.q2 ∧ x.w0 = s.w0 ∧ x.w1 = s.w1 ∧ x.w2 = s.w2 ∧ IntKind.i64.wrap (x.w3 + 1) = s.w3 ∧ (↑x.i : Int) = (↑s.i : Int) ∧ AVal.int IntKind.i64 (0 : Int) = AVal.int IntKind.i64 (1 : Int) ∧ x.n =
 s.n ∧ IntKind.i64.wrap (x.j + 1) = s.j ∧ I3 l ab (1 : Int) s ∧ (l.length - s.i - 1) * 10000 + 1 + (s.n - s.j).toNat < (l.length - x.i - 1) * 10000 + 1 + (x.n - x.j).toNat ∧ True) ∧ (b = false → ∃ (s : LS), l = l ∧ ab =
 ab ∧ aL l ab (x.i + 1) = aL l ab (s.i + 1) ∧ oL (x.i + 1) = oL (s.i + 1) ∧ x.q0 = s.q0 ∧ x.q1 = s.q1 ∧ x.q2 = s.q2 ∧ x.w0 = s.w0 ∧ x.w1 = s.w1 ∧ x.w2 = s.w2 ∧ IntKind.i64.wrap (x.w3 + 1) = s.w3 ∧ (↑x.i : Int) = (↑s.i :
 Int) ∧ AVal.int IntKind.i64 (0 : Int) = AVal.int IntKind.i64 (2 : Int) ∧ x.n = s.n ∧ IntKind.i64.wrap (x.j + 1) = s.j ∧ I3 l ab (2 : Int) s ∧ (l.length - s.i - 1) * 10000 + 1 + (s.n - s.j).toNat < (l.length - x.i - 1) *
 10000 + 1 + (x.n - x.j).toNat ∧ True))) ∧ ((at0 x.q0 x.j == 3) = false → ((at0 x.q0 x.j == 2) = true → ∃ (b : Bool), (b = true → ∃ (s : LS), l = l ∧ ab = ab ∧ aL l ab (x.i + 1) = aL l ab (s.i + 1) ∧ oL (x.i + 1) = oL
 (s.i + 1) ∧ x.q0 = s.q0 ∧ x.q1 = s.q1 ∧ x.q2 = s.q2 ∧ x.w0 = s.w0 ∧ x.w1 = s.w1 ∧ IntKind.i64.wrap (x.w3 + 1) = s.w2 ∧ x.w3 = s.w3 ∧ (↑x.i : Int) = (↑s.i : Int) ∧ AVal.int IntKind.i64 (0 : Int) = AVal.int IntKind.i64 (0
 : Int) ∧ x.n = s.n ∧ IntKind.i64.wrap (x.j + 1) = s.j ∧ I3 l ab (0 : Int) s ∧ (l.length - s.i - 1) * 10000 + 1 + (s.n - s.j).toNat < (l.length - x.i - 1) * 10000 + 1 + (x.n - x.j).toNat ∧ True) ∧ (b = false → ∃ (b :
 Bool), (b = true → ∃ (s : LS), l = l ∧ ab = ab ∧ aL l ab (x.i + 1) = aL l ab (s.i + 1) ∧ oL (x.i + 1) = oL (s.i + 1) ∧ x.q0 = s.q0 ∧ x.q1 = s.q1 ∧ x.q2 = s.q2 ∧ x.w0 = s.w0 ∧ x.w1 = s.w1 ∧ IntKind.i64.wrap (x.w3 + 1) =
 s.w2 ∧ x.w3 = s.w3 ∧ (↑x.i : Int) = (↑s.i : Int) ∧ AVal.int IntKind.i64 (0 : Int) = AVal.int IntKind.i64 (1 : Int) ∧ x.n = s.n ∧ IntKind.i64.wrap (x.j + 1) = s.j ∧ I3 l ab (1 : Int) s ∧ (l.length - s.i - 1) * 10000 + 1 +
 (s.n - s.j).toNat < (l.length - x.i - 1) * 10000 + 1 + (x.n - x.j).toNat ∧ True) ∧ (b = false → ∃ (s : LS), l = l ∧ ab = ab ∧ aL l ab (x.i + 1) = aL l ab (s.i + 1) ∧ oL (x.i + 1) = oL (s.i + 1) ∧ x.q0 = s.q0 ∧ x.q1 =
 s.q1 ∧ x.q2 = s.q2 ∧ x.w0 = s.w0 ∧ x.w1 = s.w1 ∧ IntKind.i64.wrap (x.w3 + 1) = s.w2 ∧ x.w3 = s.w3 ∧ (↑x.i : Int) = (↑s.i : Int) ∧ AVal.int IntKind.i64 (0 : Int) = AVal.int IntKind.i64 (2 : Int) ∧ x.n = s.n ∧
 IntKind.i64.wrap (x.j + 1) = s.j ∧ I3 l ab (2 : Int) s ∧ (l.length - s.i - 1) * 10000 + 1 + (s.n - s.j).toNat < (l.length - x.i - 1) * 10000 + 1 + (x.n - x.j).toNat ∧ True))) ∧ ((at0 x.q0 x.j == 2) = false → ((at0 x.q0
 x.j == 1) = true → ∃ (b : Bool), (b = true → ∃ (s : LS), l = l ∧ ab = ab ∧ aL l ab (x.i + 1) = aL l ab (s.i + 1) ∧ oL (x.i + 1) = oL (s.i + 1) ∧ x.q0 = s.q0 ∧ x.q1 = s.q1 ∧ x.q2 = s.q2 ∧ x.w0 = s.w0 ∧ IntKind.i64.wrap
 (x.w3 + 1) = s.w1 ∧ x.w2 = s.w2 ∧ x.w3 = s.w3 ∧ (↑x.i : Int) = (↑s.i : Int) ∧ AVal.int IntKind.i64 (0 : Int) = AVal.int IntKind.i64 (0 : Int) ∧ x.n = s.n ∧ IntKind.i64.wrap (x.j + 1) = s.j ∧ I3 l ab (0 : Int) s ∧
 (l.length - s.i - 1) * 10000 + 1 + (s.n - s.j).toNat < (l.length - x.i - 1) * 10000 + 1 + (x.n - x.j).toNat ∧ True) ∧ (b = false → ∃ (b : Bool), (b = true → ∃ (s : LS), l = l ∧ ab = ab ∧ aL l ab (x.i + 1) = aL l ab (s.i
 + 1) ∧ oL (x.i + 1) = oL (s.i + 1) ∧ x.q0 = s.q0 ∧ x.q1 = s.q1 ∧ x.q2 = s.q2 ∧ x.w0 = s.w0 ∧ IntKind.i64.wrap (x.w3 + 1) = s.w1 ∧ x.w2 = s.w2 ∧ x.w3 = s.w3 ∧ (↑x.i : Int) = (↑s.i : Int) ∧ AVal.int IntKind.i64 (0 : Int) =
 AVal.int IntKind.i64 (1 : Int) ∧ x.n = s.n ∧ IntKind.i64.wrap (x.j + 1) = s.j ∧ I3 l ab (1 : Int) s ∧ (l.length - s.i - 1) * 10000 + 1 + (s.n - s.j).toNat < (l.length - x.i - 1) * 10000 + 1 + (x.n - x.j).toNat ∧ True) ∧
 (b = false → ∃ (s : LS), l = l ∧ ab = ab ∧ aL l ab (x.i + 1) = aL l ab (s.i + 1) ∧ oL (x.i + 1) = oL (s.i + 1) ∧ x.q0 = s.q0 ∧ x.q1 = s.q1 ∧ x.q2 = s.q2 ∧ x.w0 = s.w0 ∧ IntKind.i64.wrap (x.w3 + 1) = s.w1 ∧ x.w2 = s.w2 ∧
 x.w3 = s.w3 ∧ (↑x.i : Int) = (↑s.i : Int) ∧ AVal.int IntKind.i64 (0 : Int) = AVal.int IntKind.i64 (2 : Int) ∧ x.n = s.n ∧ IntKind.i64.wrap (x.j + 1) = s.j ∧ I3 l ab (2 : Int) s ∧ (l.length - s.i - 1) * 10000 + 1 + (s.n -
 s.j).toNat < (l.length - x.i - 1) * 10000 + 1 + (x.n - x.j).toNat ∧ True))) ∧ ((at0 x.q0 x.j == 1) = false → ∃ (b : Bool), (b = true → ∃ (s : LS), l = l ∧ ab = ab ∧ aL l ab (x.i + 1) = aL l ab (s.i + 1) ∧ oL (x.i + 1) =
 oL (s.i + 1) ∧ x.q0 = s.q0 ∧ x.q1 = s.q1 ∧ x.q2 = s.q2 ∧ IntKind.i64.wrap (x.w3 + 1) = s.w0 ∧ x.w1 = s.w1 ∧ x.w2 = s.w2 ∧ x.w3 = s.w3 ∧ (↑x.i : Int) = (↑s.i : Int) ∧ AVal.int IntKind.i64 (0 : Int) = AVal.int IntKind.i64
 (0 : Int) ∧ x.n = s.n ∧ IntKind.i64.wrap (x.j + 1) = s.j ∧ I3 l ab (0 : Int) s ∧ (l.length - s.i - 1) * 10000 + 1 + (s.n - s.j).toNat < (l.length - x.i - 1) * 10000 + 1 + (x.n - x.j).toNat ∧ True) ∧ (b = false → ∃ (b :
 Bool), (b = true → ∃ (s : LS), l = l ∧ ab = ab ∧ aL l ab (x.i + 1) = aL l ab (s.i + 1) ∧ oL (x.i + 1) = oL (s.i + 1) ∧ x.q0 = s.q0 ∧ x.q1 = s.q1 ∧ x.q2 = s.q2 ∧ IntKind.i64.wrap (x.w3 + 1) = s.w0 ∧ x.w1 = s.w1 ∧ x.w2 =
 s.w2 ∧ x.w3 = s.w3 ∧ (↑x.i : Int) = (↑s.i : Int) ∧ AVal.int IntKind.i64 (0 : Int) = AVal.int IntKind.i64 (1 : Int) ∧ x.n = s.n ∧ IntKind.i64.wrap (x.j + 1) = s.j ∧ I3 l ab (1 : Int) s ∧ (l.length - s.i - 1) * 10000 + 1 +
 (s.n - s.j).toNat < (l.length - x.i - 1) * 10000 + 1 + (x.n - x.j).toNat ∧ True) ∧ (b = false → ∃ (s : LS), l = l ∧ ab = ab ∧ aL l ab (x.i + 1) = aL l ab (s.i + 1) ∧ oL (x.i + 1) = oL (s.i + 1) ∧ x.q0 = s.q0 ∧ x.q1 =
 s.q1 ∧ x.q2 = s.q2 ∧ IntKind.i64.wrap (x.w3 + 1) = s.w0 ∧ x.w1 = s.w1 ∧ x.w2 = s.w2 ∧ x.w3 = s.w3 ∧ (↑x.i : Int) = (↑s.i : Int) ∧ AVal.int IntKind.i64 (0 : Int) = AVal.int IntKind.i64 (2 : Int) ∧ x.n = s.n ∧
 IntKind.i64.wrap (x.j + 1) = s.j ∧ I3 l ab (2 : Int) s ∧ (l.length - s.i - 1) * 10000 + 1 + (s.n - s.j).toNat < (l.length - x.i - 1) * 10000 + 1 + (x.n - x.j).toNat ∧ True)))))) ∧ ((at0 x.q0 x.j == 3) = false → ((at0
 x.q0 x.j == 2) = true → ((0 : Int) ≤ at0 x.q0 x.j ∧ at0 x.q0 x.j < 4) ∧ ((at0 x.q0 x.j == 3) = true → ∃ (b : Bool), (b = true → ∃ (s : LS), l = l ∧ ab = ab ∧ aL l ab (x.i + 1) = aL l ab (s.i + 1) ∧ oL (x.i + 1) = oL (s.i
 + 1) ∧ x.q0 = s.q0 ∧ x.q1 = s.q1 ∧ x.q2 = s.q2 ∧ x.w0 = s.w0 ∧ x.w1 = s.w1 ∧ x.w2 = s.w2 ∧ IntKind.i64.wrap (x.w2 + 1) = s.w3 ∧ (↑x.i : Int) = (↑s.i : Int) ∧ AVal.int IntKind.i64 (0 : Int) = AVal.int IntKind.i64 (0 :
 Int) ∧ x.n = s.n ∧ IntKind.i64.wrap (x.j + 1) = s.j ∧ I3 l ab (0 : Int) s ∧ (l.length - s.i - 1) * 10000 + 1 + (s.n - s.j).toNat < (l.length - x.i - 1) * 10000 + 1 + (x.n - x.j).toNat ∧ True) ∧ (b = false → ∃ (b : Bool),
 (b = true → ∃ (s : LS), l = l ∧ ab = ab ∧ aL l ab (x.i + 1) = aL l ab (s.i + 1) ∧ oL (x.i + 1) = oL (s.i + 1) ∧ x.q0 = s.q0 ∧ x.q1 = s.q1 ∧ x.q2 = s.q2 ∧ x.w0 = s.w0 ∧ x.w1 = s.w1 ∧ x.w2 = s.w2 ∧ IntKind.i64.wrap (x.w2 +
 1) = s.w3 ∧ (↑x.i : Int) = (↑s.i : Int) ∧ AVal.int IntKind.i64 (0 : Int) = AVal.int IntKind.i64 (1 : Int) ∧ x.n = s.n ∧ IntKind.i64.wrap (x.j + 1) = s.j ∧ I3 l ab (1 : Int) s ∧ (l.length - s.i - 1) * 10000 + 1 + (s.n -
 s.j).toNat < (l.length - x.i - 1) * 10000 + 1 + (x.n - x.j).toNat ∧ True) ∧ (b = false → ∃ (s : LS), l = l ∧ ab = ab ∧ aL l ab (x.i + 1) = aL l ab (s.i + 1) ∧ oL (x.i + 1) = oL (s.i + 1) ∧ x.q0 = s.q0 ∧ x.q1 = s.q1 ∧
 x.q2 = s.q2 ∧ x.w0 = s.w0 ∧ x.w1 = s.w1 ∧ x.w2 = s.w2 ∧ IntKind.i64.wrap (x.w2 + 1) = s.w3 ∧ (↑x.i : Int) = (↑s.i : Int) ∧ AVal.int IntKind.i64 (0 : Int) = AVal.int IntKind.i64 (2 : Int) ∧ x.n = s.n ∧ IntKind.i64.wrap
 (x.j + 1) = s.j ∧ I3 l ab (2 : Int) s ∧ (l.length - s.i - 1) * 10000 + 1 + (s.n - s.j).toNat < (l.length - x.i - 1) * 10000 + 1 + (x.n - x.j).toNat ∧ True))) ∧ ((at0 x.q0 x.j == 3) = false → ((at0 x.q0 x.j == 2) = true →
 ∃ (b : Bool), (b = true → ∃ (s : LS), l = l ∧ ab = ab ∧ aL l ab (x.i + 1) = aL l ab (s.i + 1) ∧ oL (x.i + 1) = oL (s.i + 1) ∧ x.q0 = s.q0 ∧ x.q1 = s.q1 ∧ x.q2 = s.q2 ∧ x.w0 = s.w0 ∧ x.w1 = s.w1 ∧ IntKind.i64.wrap (x.w2 +
 1) = s.w2 ∧ x.w3 = s.w3 ∧ (↑x.i : Int) = (↑s.i : Int) ∧ AVal.int IntKind.i64 (0 : Int) = AVal.int IntKind.i64 (0 : Int) ∧ x.n = s.n ∧ IntKind.i64.wrap (x.j + 1) = s.j ∧ I3 l ab (0 : Int) s ∧ (l.length - s.i - 1) * 10000
 + 1 + (s.n - s.j).toNat < (l.length - x.i - 1) * 10000 + 1 + (x.n - x.j).toNat ∧ True) ∧ (b = false → ∃ (b : Bool), (b = true → ∃ (s : LS), l = l ∧ ab = ab ∧ aL l ab (x.i + 1) = aL l ab (s.i + 1) ∧ oL (x.i + 1) = oL (s.i
 + 1) ∧ x.q0 = s.q0 ∧ x.q1 = s.q1 ∧ x.q2 = s.q2 ∧ x.w0 = s.w0 ∧ x.w1 = s.w1 ∧ IntKind.i64.wrap (x.w2 + 1) = s.w2 ∧ x.w3 = s.w3 ∧ (↑x.i : Int) = (↑s.i : Int) ∧ AVal.int IntKind.i64 (0 : Int) = AVal.int IntKind.i64 (1 :
 Int) ∧ x.n = s.n ∧ IntKind.i64.wrap (x.j + 1) = s.j ∧ I3 l ab (1 : Int) s ∧ (l.length - s.i - 1) * 10000 + 1 + (s.n - s.j).toNat < (l.length - x.i - 1) * 10000 + 1 + (x.n - x.j).toNat ∧ True) ∧ (b = false → ∃ (s : LS), l
 = l ∧ ab = ab ∧ aL l ab (x.i + 1) = aL l ab (s.i + 1) ∧ oL (x.i + 1) = oL (s.i + 1) ∧ x.q0 = s.q0 ∧ x.q1 = s.q1 ∧ x.q2 = s.q2 ∧ x.w0 = s.w0 ∧ x.w1 = s.w1 ∧ IntKind.i64.wrap (x.w2 + 1) = s.w2 ∧ x.w3 = s.w3 ∧ (↑x.i : Int)
 = (↑s.i : Int) ∧ AVal.int IntKind.i64 (0 : Int) = AVal.int IntKind.i64 (2 : Int) ∧ x.n = s.n ∧ IntKind.i64.wrap (x.j + 1) = s.j ∧ I3 l ab (2 : Int) s ∧ (l.length - s.i - 1) * 10000 + 1 + (s.n - s.j).toNat < (l.length -
 x.i - 1) * 10000 + 1 + (x.n - x.j).toNat ∧ True))) ∧ ((at0 x.q0 x.j == 2) = false → ((at0 x.q0 x.j == 1) = true → ∃ (b : Bool), (b = true → ∃ (s : LS), l = l ∧ ab = ab ∧ aL l ab (x.i + 1) = aL l ab (s.i + 1) ∧ oL (x.i +
 1) = oL (s.i + 1) ∧ x.q0 = s.q0 ∧ x.q1 = s.q1 ∧ x.q2 = s.q2 ∧ x.w0 = s.w0 ∧ IntKind.i64.wrap (x.w2 + 1) = s.w1 ∧ x.w2 = s.w2 ∧ x.w3 = s.w3 ∧ (↑x.i : Int) = (↑s.i : Int) ∧ AVal.int IntKind.i64 (0 : Int) = AVal.int
 IntKind.i64 (0 : Int) ∧ x.n = s.n ∧ IntKind.i64.wrap (x.j + 1) = s.j ∧ I3 l ab (0 : Int) s ∧ (l.length - s.i - 1) * 10000 + 1 + (s.n - s.j).toNat < (l.length - x.i - 1) * 10000 + 1 + (x.n - x.j).toNat ∧ True) ∧ (b =
 false → ∃ (b : Bool), (b = true → ∃ (s : LS), l = l ∧ ab = ab ∧ aL l ab (x.i + 1) = aL l ab (s.i + 1) ∧ oL (x.i + 1) = oL (s.i + 1) ∧ x.q0 = s.q0 ∧ x.q1 = s.q1 ∧ x.q2 = s.q2 ∧ x.w0 = s.w0 ∧ IntKind.i64.wrap (x.w2 + 1) =
 s.w1 ∧ x.w2 = s.w2 ∧ x.w3 = s.w3 ∧ (↑x.i : Int) = (↑s.i : Int) ∧ AVal.int IntKind.i64 (0 : Int) = AVal.int IntKind.i64 (1 : Int) ∧ x.n = s.n ∧ IntKind.i64.wrap (x.j + 1) = s.j ∧ I3 l ab (1 : Int) s ∧ (l.length - s.i - 1)
 * 10000 + 1 + (s.n - s.j).toNat < (l.length - x.i - 1) * 10000 + 1 + (x.n - x.j).toNat ∧ True) ∧ (b = false → ∃ (s : LS), l = l ∧ ab = ab ∧ aL l ab (x.i + 1) = aL l ab (s.i + 1) ∧ oL (x.i + 1) = oL (s.i + 1) ∧ x.q0 =
 s.q0 ∧ x.q1 = s.q1 ∧ x.q2 = s.q2 ∧ x.w0 = s.w0 ∧ IntKind.i64.wrap (x.w2 + 1) = s.w1 ∧ x.w2 = s.w2 ∧ x.w3 = s.w3 ∧ (↑x.i : Int) = (↑s.i : Int) ∧ AVal.int IntKind.i64 (0 : Int) = AVal.int IntKind.i64 (2 : Int) ∧ x.n = s.n
 ∧ IntKind.i64.wrap (x.j + 1) = s.j ∧ I3 l ab (2 : Int) s ∧ (l.length - s.i - 1) * 10000 + 1 + (s.n - s.j).toNat < (l.length - x.i - 1) * 10000 + 1 + (x.n - x.j).toNat ∧ True))) ∧ ((at0 x.q0 x.j == 1) = false → ∃ (b :
 Bool), (b = true → ∃ (s : LS), l = l ∧ ab = ab ∧ aL l ab (x.i + 1) = aL l ab (s.i + 1) ∧ oL (x.i + 1) = oL (s.i + 1) ∧ x.q0 = s.q0 ∧ x.q1 = s.q1 ∧ x.q2 = s.q2 ∧ IntKind.i64.wrap (x.w2 + 1) = s.w0 ∧ x.w1 = s.w1 ∧ x.w2 =
 s.w2 ∧ x.w3 = s.w3 ∧ (↑x.i : Int) = (↑s.i : Int) ∧ AVal.int IntKind.i64 (0 : Int) = AVal.int IntKind.i64 (0 : Int) ∧ x.n = s.n ∧ IntKind.i64.wrap (x.j + 1) = s.j ∧ I3 l ab (0 : Int) s ∧ (l.length - s.i - 1) * 10000 + 1 +
 (s.n - s.j).toNat < (l.length - x.i - 1) * 10000 + 1 + (x.n - x.j).toNat ∧ True) ∧ (b = false → ∃ (b : Bool), (b = true → ∃ (s : LS), l = l ∧ ab = ab ∧ aL l ab (x.i + 1) = aL l ab (s.i + 1) ∧ oL (x.i + 1) = oL (s.i + 1)
 ∧ x.q0 = s.q0 ∧ x.q1 = s.q1 ∧ x.q2 = s.q2 ∧ IntKind.i64.wrap (x.w2 + 1) = s.w0 ∧ x.w1 = s.w1 ∧ x.w2 = s.w2 ∧ x.w3 = s.w3 ∧ (↑x.i : Int) = (↑s.i : Int) ∧ AVal.int IntKind.i64 (0 : Int) = AVal.int IntKind.i64 (1 : Int) ∧
 x.n = s.n ∧ IntKind.i64.wrap (x.j + 1) = s.j ∧ I3 l ab (1 : Int) s ∧ (l.length - s.i - 1) * 10000 + 1 + (s.n - s.j).toNat < (l.length - x.i - 1) * 10000 + 1 + (x.n - x.j).toNat ∧ True) ∧ (b = false → ∃ (s : LS), l = l ∧
 ab = ab ∧ aL l ab (x.i + 1) = aL l ab (s.i + 1) ∧ oL (x.i + 1) = oL (s.i + 1) ∧ x.q0 = s.q0 ∧ x.q1 = s.q1 ∧ x.q2 = s.q2 ∧ IntKind.i64.wrap (x.w2 + 1) = s.w0 ∧ x.w1 = s.w1 ∧ x.w2 = s.w2 ∧ x.w3 = s.w3 ∧ (↑x.i : Int) =
 (↑s.i : Int) ∧ AVal.int IntKind.i64 (0 : Int) = AVal.int IntKind.i64 (2 : Int) ∧ x.n = s.n ∧ IntKind.i64.wrap (x.j + 1) = s.j ∧ I3 l ab (2 : Int) s ∧ (l.length - s.i - 1) * 10000 + 1 + (s.n - s.j).toNat < (l.length - x.i
 - 1) * 10000 + 1 + (x.n - x.j).toNat ∧ True)))))) ∧ ((at0 x.q0 x.j == 2) = false → ((at0 x.q0 x.j == 1) = true → ((0 : Int) ≤ at0 x.q0 x.j ∧ at0 x.q0 x.j < 4) ∧ ((at0 x.q0 x.j == 3) = true → ∃ (b : Bool), (b = true → ∃
 (s : LS), l = l ∧ ab = ab ∧ aL l ab (x.i + 1) = aL l ab (s.i + 1) ∧ oL (x.i + 1) = oL (s.i + 1) ∧ x.q0 = s.q0 ∧ x.q1 = s.q1 ∧ x.q2 = s.q2 ∧ x.w0 = s.w0 ∧ x.w1 = s.w1 ∧ x.w2 = s.w2 ∧ IntKind.i64.wrap (x.w1 + 1) = s.w3 ∧
 (↑x.i : Int) = (↑s.i : Int) ∧ AVal.int IntKind.i64 (0 : Int) = AVal.int IntKind.i64 (0 : Int) ∧ x.n = s.n ∧ IntKind.i64.wrap (x.j + 1) = s.j ∧ I3 l ab (0 : Int) s ∧ (l.length - s.i - 1) * 10000 + 1 + (s.n - s.j).toNat <
 (l.length - x.i - 1) * 10000 + 1 + (x.n - x.j).toNat ∧ True) ∧ (b = false → ∃ (b : Bool), (b = true → ∃ (s : LS), l = l ∧ ab = ab ∧ aL l ab (x.i + 1) = aL l ab (s.i + 1) ∧ oL (x.i + 1) = oL (s.i + 1) ∧ x.q0 = s.q0 ∧ x.q1
 = s.q1 ∧ x.q2 = s.q2 ∧ x.w0 = s.w0 ∧ x.w1 = s.w1 ∧ x.w2 = s.w2 ∧ IntKind.i64.wrap (x.w1 + 1) = s.w3 ∧ (↑x.i : Int) = (↑s.i : Int) ∧ AVal.int IntKind.i64 (0 : Int) = AVal.int IntKind.i64 (1 : Int) ∧ x.n = s.n ∧
 IntKind.i64.wrap (x.j + 1) = s.j ∧ I3 l ab (1 : Int) s ∧ (l.length - s.i - 1) * 10000 + 1 + (s.n - s.j).toNat < (l.length - x.i - 1) * 10000 + 1 + (x.n - x.j).toNat ∧ True) ∧ (b = false → ∃ (s : LS), l = l ∧ ab = ab ∧ aL
 l ab (x.i + 1) = aL l ab (s.i + 1) ∧ oL (x.i + 1) = oL (s.i + 1) ∧ x.q0 = s.q0 ∧ x.q1 = s.q1 ∧ x.q2 = s.q2 ∧ x.w0 = s.w0 ∧ x.w1 = s.w1 ∧ x.w2 = s.w2 ∧ IntKind.i64.wrap (x.w1 + 1) = s.w3 ∧ (↑x.i : Int) = (↑s.i : Int) ∧
 AVal.int IntKind.i64 (0 : Int) = AVal.int IntKind.i64 (2 : Int) ∧ x.n = s.n ∧ IntKind.i64.wrap (x.j + 1) = s.j ∧ I3 l ab (2 : Int) s ∧ (l.length - s.i - 1) * 10000 + 1 + (s.n - s.j).toNat < (l.length - x.i - 1) * 10000 +
 1 + (x.n - x.j).toNat ∧ True))) ∧ ((at0 x.q0 x.j == 3) = false → ((at0 x.q0 x.j == 2) = true → ∃ (b : Bool), (b = true → ∃ (s : LS), l = l ∧ ab = ab ∧ aL l ab (x.i + 1) = aL l ab (s.i + 1) ∧ oL (x.i + 1) = oL (s.i + 1) ∧
 x.q0 = s.q0 ∧ x.q1 = s.q1 ∧ x.q2 = s.q2 ∧ x.w0 = s.w0 ∧ x.w1 = s.w1 ∧ IntKind.i64.wrap (x.w1 + 1) = s.w2 ∧ x.w3 = s.w3 ∧ (↑x.i : Int) = (↑s.i : Int) ∧ AVal.int IntKind.i64 (0 : Int) = AVal.int IntKind.i64 (0 : Int) ∧ x.n
 = s.n ∧ IntKind.i64.wrap (x.j + 1) = s.j ∧ I3 l ab (0 : Int) s ∧ (l.length - s.i - 1) * 10000 + 1 + (s.n - s.j).toNat < (l.length - x.i - 1) * 10000 + 1 + (x.n - x.j).toNat ∧ True) ∧ (b = false → ∃ (b : Bool), (b = true
 → ∃ (s : LS), l = l ∧ ab = ab ∧ aL l ab (x.i + 1) = aL l ab (s.i + 1) ∧ oL (x.i + 1) = oL (s.i + 1) ∧ x.q0 = s.q0 ∧ x.q1 = s.q1 ∧ x.q2 = s.q2 ∧ x.w0 = s.w0 ∧ x.w1 = s.w1 ∧ IntKind.i64.wrap (x.w1 + 1) = s.w2 ∧ x.w3 = s.w3
 ∧ (↑x.i : Int) = (↑s.i : Int) ∧ AVal.int IntKind.i64 (0 : Int) = AVal.int IntKind.i64 (1 : Int) ∧ x.n = s.n ∧ IntKind.i64.wrap (x.j + 1) = s.j ∧ I3 l ab (1 : Int) s ∧ (l.length - s.i - 1) * 10000 + 1 + (s.n - s.j).toNat
 < (l.length - x.i - 1) * 10000 + 1 + (x.n - x.j).toNat ∧ True) ∧ (b = false → ∃ (s : LS), l = l ∧ ab = ab ∧ aL l ab (x.i + 1) = aL l ab (s.i + 1) ∧ oL (x.i + 1) = oL (s.i + 1) ∧ x.q0 = s.q0 ∧ x.q1 = s.q1 ∧ x.q2 = s.q2 ∧
 x.w0 = s.w0 ∧ x.w1 = s.w1 ∧ IntKind.i64.wrap (x.w1 + 1) = s.w2 ∧ x.w3 = s.w3 ∧ (↑x.i : Int) = (↑s.i : Int) ∧ AVal.int IntKind.i64 (0 : Int) = AVal.int IntKind.i64 (2 : Int) ∧ x.n = s.n ∧ IntKind.i64.wrap (x.j + 1) = s.j
 ∧ I3 l ab (2 : Int) s ∧ (l.length - s.i - 1) * 10000 + 1 + (s.n - s.j).toNat < (l.length - x.i - 1) * 10000 + 1 + (x.n - x.j).toNat ∧ True))) ∧ ((at0 x.q0 x.j == 2) = false → ((at0 x.q0 x.j == 1) = true → ∃ (b : Bool),
 (b = true → ∃ (s : LS), l = l ∧ ab = ab ∧ aL l ab (x.i + 1) = aL l ab (s.i + 1) ∧ oL (x.i + 1) = oL (s.i + 1) ∧ x.q0 = s.q0 ∧ x.q1 = s.q1 ∧ x.q2 = s.q2 ∧ x.w0 = s.w0 ∧ IntKind.i64.wrap (x.w1 + 1) = s.w1 ∧ x.w2 = s.w2 ∧
 x.w3 = s.w3 ∧ (↑x.i : Int) = (↑s.i : Int) ∧ AVal.int IntKind.i64 (0 : Int) = AVal.int IntKind.i64 (0 : Int) ∧ x.n = s.n ∧ IntKind.i64.wrap (x.j + 1) = s.j ∧ I3 l ab (0 : Int) s ∧ (l.length - s.i - 1) * 10000 + 1 + (s.n -
 s.j).toNat < (l.length - x.i - 1) * 10000 + 1 + (x.n - x.j).toNat ∧ True) ∧ (b = false → ∃ (b : Bool), (b = true → ∃ (s : LS), l = l ∧ ab = ab ∧ aL l ab (x.i + 1) = aL l ab (s.i + 1) ∧ oL (x.i + 1) = oL (s.i + 1) ∧ x.q0
 = s.q0 ∧ x.q1 = s.q1 ∧ x.q2 = s.q2 ∧ x.w0 = s.w0 ∧ IntKind.i64.wrap (x.w1 + 1) = s.w1 ∧ x.w2 = s.w2 ∧ x.w3 = s.w3 ∧ (↑x.i : Int) = (↑s.i : Int) ∧ AVal.int IntKind.i64 (0 : Int) = AVal.int IntKind.i64 (1 : Int) ∧ x.n =
 s.n ∧ IntKind.i64.wrap (x.j + 1) = s.j ∧ I3 l ab (1 : Int) s ∧ (l.length - s.i - 1) * 10000 + 1 + (s.n - s.j).toNat < (l.length - x.i - 1) * 10000 + 1 + (x.n - x.j).toNat ∧ True) ∧ (b = false → ∃ (s : LS), l = l ∧ ab =
 ab ∧ aL l ab (x.i + 1) = aL l ab (s.i + 1) ∧ oL (x.i + 1) = oL (s.i + 1) ∧ x.q0 = s.q0 ∧ x.q1 = s.q1 ∧ x.q2 = s.q2 ∧ x.w0 = s.w0 ∧ IntKind.i64.wrap (x.w1 + 1) = s.w1 ∧ x.w2 = s.w2 ∧ x.w3 = s.w3 ∧ (↑x.i : Int) = (↑s.i :
 Int) ∧ AVal.int IntKind.i64 (0 : Int) = AVal.int IntKind.i64 (2 : Int) ∧ x.n = s.n ∧ IntKind.i64.wrap (x.j + 1) = s.j ∧ I3 l ab (2 : Int) s ∧ (l.length - s.i - 1) * 10000 + 1 + (s.n - s.j).toNat < (l.length - x.i - 1) *
 10000 + 1 + (x.n - x.j).toNat ∧ True))) ∧ ((at0 x.q0 x.j == 1) = false → ∃ (b : Bool), (b = true → ∃ (s : LS), l = l ∧ ab = ab ∧ aL l ab (x.i + 1) = aL l ab (s.i + 1) ∧ oL (x.i + 1) = oL (s.i + 1) ∧ x.q0 = s.q0 ∧ x.q1 =
 s.q1 ∧ x.q2 = s.q2 ∧ IntKind.i64.wrap (x.w1 + 1) = s.w0 ∧ x.w1 = s.w1 ∧ x.w2 = s.w2 ∧ x.w3 = s.w3 ∧ (↑x.i : Int) = (↑s.i : Int) ∧ AVal.int IntKind.i64 (0 : Int) = AVal.int IntKind.i64 (0 : Int) ∧ x.n = s.n ∧
 IntKind.i64.wrap (x.j + 1) = s.j ∧ I3 l ab (0 : Int) s ∧ (l.length - s.i - 1) * 10000 + 1 + (s.n - s.j).toNat < (l.length - x.i - 1) * 10000 + 1 + (x.n - x.j).toNat ∧ True) ∧ (b = false → ∃ (b : Bool), (b = true → ∃ (s :
 LS), l = l ∧ ab = ab ∧ aL l ab (x.i + 1) = aL l ab (s.i + 1) ∧ oL (x.i + 1) = oL (s.i + 1) ∧ x.q0 = s.q0 ∧ x.q1 = s.q1 ∧ x.q2 = s.q2 ∧ IntKind.i64.wrap (x.w1 + 1) = s.w0 ∧ x.w1 = s.w1 ∧ x.w2 = s.w2 ∧ x.w3 = s.w3 ∧ (↑x.i
 : Int) = (↑s.i : Int) ∧ AVal.int IntKind.i64 (0 : Int) = AVal.int IntKind.i64 (1 : Int) ∧ x.n = s.n ∧ IntKind.i64.wrap (x.j + 1) = s.j ∧ I3 l ab (1 : Int) s ∧ (l.length - s.i - 1) * 10000 + 1 + (s.n - s.j).toNat <
 (l.length - x.i - 1) * 10000 + 1 + (x.n - x.j).toNat ∧ True) ∧ (b = false → ∃ (s : LS), l = l ∧ ab = ab ∧ aL l ab (x.i + 1) = aL l ab (s.i + 1) ∧ oL (x.i + 1) = oL (s.i + 1) ∧ x.q0 = s.q0 ∧ x.q1 = s.q1 ∧ x.q2 = s.q2 ∧
 IntKind.i64.wrap (x.w1 + 1) = s.w0 ∧ x.w1 = s.w1 ∧ x.w2 = s.w2 ∧ x.w3 = s.w3 ∧ (↑x.i : Int) = (↑s.i : Int) ∧ AVal.int IntKind.i64 (0 : Int) = AVal.int IntKind.i64 (2 : Int) ∧ x.n = s.n ∧ IntKind.i64.wrap (x.j + 1) = s.j
 ∧ I3 l ab (2 : Int) s ∧ (l.length - s.i - 1) * 10000 + 1 + (s.n - s.j).toNat < (l.length - x.i - 1) * 10000 + 1 + (x.n - x.j).toNat ∧ True)))))) ∧ ((at0 x.q0 x.j == 1) = false → ((0 : Int) ≤ at0 x.q0 x.j ∧ at0 x.q0 x.j <
 4) ∧ ((at0 x.q0 x.j == 3) = true → ∃ (b : Bool), (b = true → ∃ (s : LS), l = l ∧ ab = ab ∧ aL l ab (x.i + 1) = aL l ab (s.i + 1) ∧ oL (x.i + 1) = oL (s.i + 1) ∧ x.q0 = s.q0 ∧ x.q1 = s.q1 ∧ x.q2 = s.q2 ∧ x.w0 = s.w0 ∧
 x.w1 = s.w1 ∧ x.w2 = s.w2 ∧ IntKind.i64.wrap (x.w0 + 1) = s.w3 ∧ (↑x.i : Int) = (↑s.i : Int) ∧ AVal.int IntKind.i64 (0 : Int) = AVal.int IntKind.i64 (0 : Int) ∧ x.n = s.n ∧ IntKind.i64.wrap (x.j + 1) = s.j ∧ I3 l ab (0 :
 Int) s ∧ (l.length - s.i - 1) * 10000 + 1 + (s.n - s.j).toNat < (l.length - x.i - 1) * 10000 + 1 + (x.n - x.j).toNat ∧ True) ∧ (b = false → ∃ (b : Bool), (b = true → ∃ (s : LS), l = l ∧ ab = ab ∧ aL l ab (x.i + 1) = aL l
 ab (s.i + 1) ∧ oL (x.i + 1) = oL (s.i + 1) ∧ x.q0 = s.q0 ∧ x.q1 = s.q1 ∧ x.q2 = s.q2 ∧ x.w0 = s.w0 ∧ x.w1 = s.w1 ∧ x.w2 = s.w2 ∧ IntKind.i64.wrap (x.w0 + 1) = s.w3 ∧ (↑x.i : Int) = (↑s.i : Int) ∧ AVal.int IntKind.i64 (0
 : Int) = AVal.int IntKind.i64 (1 : Int) ∧ x.n = s.n ∧ IntKind.i64.wrap (x.j + 1) = s.j ∧ I3 l ab (1 : Int) s ∧ (l.length - s.i - 1) * 10000 + 1 + (s.n - s.j).toNat < (l.length - x.i - 1) * 10000 + 1 + (x.n - x.j).toNat ∧
 True) ∧ (b = false → ∃ (s : LS), l = l ∧ ab = ab ∧ aL l ab (x.i + 1) = aL l ab (s.i + 1) ∧ oL (x.i + 1) = oL (s.i + 1) ∧ x.q0 = s.q0 ∧ x.q1 = s.q1 ∧ x.q2 = s.q2 ∧ x.w0 = s.w0 ∧ x.w1 = s.w1 ∧ x.w2 = s.w2 ∧
 IntKind.i64.wrap (x.w0 + 1) = s.w3 ∧ (↑x.i : Int) = (↑s.i : Int) ∧ AVal.int IntKind.i64 (0 : Int) = AVal.int IntKind.i64 (2 : Int) ∧ x.n = s.n ∧ IntKind.i64.wrap (x.j + 1) = s.j ∧ I3 l ab (2 : Int) s ∧ (l.length - s.i -
 1) * 10000 + 1 + (s.n - s.j).toNat < (l.length - x.i - 1) * 10000 + 1 + (x.n - x.j).toNat ∧ True))) ∧ ((at0 x.q0 x.j == 3) = false → ((at0 x.q0 x.j == 2) = true → ∃ (b : Bool), (b = true → ∃ (s : LS), l = l ∧ ab = ab ∧
 aL l ab (x.i + 1) = aL l ab (s.i + 1) ∧ oL (x.i + 1) = oL (s.i + 1) ∧ x.q0 = s.q0 ∧ x.q1 = s.q1 ∧ x.q2 = s.q2 ∧ x.w0 = s.w0 ∧ x.w1 = s.w1 ∧ IntKind.i64.wrap (x.w0 + 1) = s.w2 ∧ x.w3 = s.w3 ∧ (↑x.i : Int) = (↑s.i : Int) ∧
 AVal.int IntKind.i64 (0 : Int) = AVal.int IntKind.i64 (0 : Int) ∧ x.n = s.n ∧ IntKind.i64.wrap (x.j + 1) = s.j ∧ I3 l ab (0 : Int) s ∧ (l.length - s.i - 1) * 10000 + 1 + (s.n - s.j).toNat < (l.length - x.i - 1) * 10000 +
 1 + (x.n - x.j).toNat ∧ True) ∧ (b = false → ∃ (b : Bool), (b = true → ∃ (s : LS), l = l ∧ ab = ab ∧ aL l ab (x.i + 1) = aL l ab (s.i + 1) ∧ oL (x.i + 1) = oL (s.i + 1) ∧ x.q0 = s.q0 ∧ x.q1 = s.q1 ∧ x.q2 = s.q2 ∧ x.w0 =
 s.w0 ∧ x.w1 = s.w1 ∧ IntKind.i64.wrap (x.w0 + 1) = s.w2 ∧ x.w3 = s.w3 ∧ (↑x.i : Int) = (↑s.i : Int) ∧ AVal.int IntKind.i64 (0 : Int) = AVal.int IntKind.i64 (1 : Int) ∧ x.n = s.n ∧ IntKind.i64.wrap (x.j + 1) = s.j ∧ I3 l
 ab (1 : Int) s ∧ (l.length - s.i - 1) * 10000 + 1 + (s.n - s.j).toNat < (l.length - x.i - 1) * 10000 + 1 + (x.n - x.j).toNat ∧ True) ∧ (b = false → ∃ (s : LS), l = l ∧ ab = ab ∧ aL l ab (x.i + 1) = aL l ab (s.i + 1) ∧ oL
 (x.i + 1) = oL (s.i + 1) ∧ x.q0 = s.q0 ∧ x.q1 = s.q1 ∧ x.q2 = s.q2 ∧ x.w0 = s.w0 ∧ x.w1 = s.w1 ∧ IntKind.i64.wrap (x.w0 + 1) = s.w2 ∧ x.w3 = s.w3 ∧ (↑x.i : Int) = (↑s.i : Int) ∧ AVal.int IntKind.i64 (0 : Int) = AVal.int
 IntKind.i64 (2 : Int) ∧ x.n = s.n ∧ IntKind.i64.wrap (x.j + 1) = s.j ∧ I3 l ab (2 : Int) s ∧ (l.length - s.i - 1) * 10000 + 1 + (s.n - s.j).toNat < (l.length - x.i - 1) * 10000 + 1 + (x.n - x.j).toNat ∧ True))) ∧ ((at0
 x.q0 x.j == 2) = false → ((at0 x.q0 x.j == 1) = true → ∃ (b : Bool), (b = true → ∃ (s : LS), l = l ∧ ab = ab ∧ aL l ab (x.i + 1) = aL l ab (s.i + 1) ∧ oL (x.i + 1) = oL (s.i + 1) ∧ x.q0 = s.q0 ∧ x.q1 = s.q1 ∧ x.q2 = s.q2
 ∧ x.w0 = s.w0 ∧ IntKind.i64.wrap (x.w0 + 1) = s.w1 ∧ x.w2 = s.w2 ∧ x.w3 = s.w3 ∧ (↑x.i : Int) = (↑s.i : Int) ∧ AVal.int IntKind.i64 (0 : Int) = AVal.int IntKind.i64 (0 : Int) ∧ x.n = s.n ∧ IntKind.i64.wrap (x.j + 1) =
 s.j ∧ I3 l ab (0 : Int) s ∧ (l.length - s.i - 1) * 10000 + 1 + (s.n - s.j).toNat < (l.length - x.i - 1) * 10000 + 1 + (x.n - x.j).toNat ∧ True) ∧ (b = false → ∃ (b : Bool), (b = true → ∃ (s : LS), l = l ∧ ab = ab ∧ aL l
 ab (x.i + 1) = aL l ab (s.i + 1) ∧ oL (x.i + 1) = oL (s.i + 1) ∧ x.q0 = s.q0 ∧ x.q1 = s.q1 ∧ x.q2 = s.q2 ∧ x.w0 = s.w0 ∧ IntKind.i64.wrap (x.w0 + 1) = s.w1 ∧ x.w2 = s.w2 ∧ x.w3 = s.w3 ∧ (↑x.i : Int) = (↑s.i : Int) ∧
 AVal.int IntKind.i64 (0 : Int) = AVal.int IntKind.i64 (1 : Int) ∧ x.n = s.n ∧ IntKind.i64.wrap (x.j + 1) = s.j ∧ I3 l ab (1 : Int) s ∧ (l.length - s.i - 1) * 10000 + 1 + (s.n - s.j).toNat < (l.length - x.i - 1) * 10000 +
 1 + (x.n - x.j).toNat ∧ True) ∧ (b = false → ∃ (s : LS), l = l ∧ ab = ab ∧ aL l ab (x.i + 1) = aL l ab (s.i + 1) ∧ oL (x.i + 1) = oL (s.i + 1) ∧ x.q0 = s.q0 ∧ x.q1 = s.q1 ∧ x.q2 = s.q2 ∧ x.w0 = s.w0 ∧ IntKind.i64.wrap
 (x.w0 + 1) = s.w1 ∧ x.w2 = s.w2 ∧ x.w3 = s.w3 ∧ (↑x.i : Int) = (↑s.i : Int) ∧ AVal.int IntKind.i64 (0 : Int) = AVal.int IntKind.i64 (2 : Int) ∧ x.n = s.n ∧ IntKind.i64.wrap (x.j + 1) = s.j ∧ I3 l ab (2 : Int) s ∧
 (l.length - s.i - 1) * 10000 + 1 + (s.n - s.j).toNat < (l.length - x.i - 1) * 10000 + 1 + (x.n - x.j).toNat ∧ True))) ∧ ((at0 x.q0 x.j == 1) = false → ∃ (b : Bool), (b = true → ∃ (s : LS), l = l ∧ ab = ab ∧ aL l ab (x.i
 + 1) = aL l ab (s.i + 1) ∧ oL (x.i + 1) = oL (s.i + 1) ∧ x.q0 = s.q0 ∧ x.q1 = s.q1 ∧ x.q2 = s.q2 ∧ IntKind.i64.wrap (x.w0 + 1) = s.w0 ∧ x.w1 = s.w1 ∧ x.w2 = s.w2 ∧ x.w3 = s.w3 ∧ (↑x.i : Int) = (↑s.i : Int) ∧ AVal.int
 IntKind.i64 (0 : Int) = AVal.int IntKind.i64 (0 : Int) ∧ x.n = s.n ∧ IntKind.i64.wrap (x.j + 1) = s.j ∧ I3 l ab (0 : Int) s ∧ (l.length - s.i - 1) * 10000 + 1 + (s.n - s.j).toNat < (l.length - x.i - 1) * 10000 + 1 + (x.n
 - x.j).toNat ∧ True) ∧ (b = false → ∃ (b : Bool), (b = true → ∃ (s : LS), l = l ∧ ab = ab ∧ aL l ab (x.i + 1) = aL l ab (s.i + 1) ∧ oL (x.i + 1) = oL (s.i + 1) ∧ x.q0 = s.q0 ∧ x.q1 = s.q1 ∧ x.q2 = s.q2 ∧ IntKind.i64.wrap
 (x.w0 + 1) = s.w0 ∧ x.w1 = s.w1 ∧ x.w2 = s.w2 ∧ x.w3 = s.w3 ∧ (↑x.i : Int) = (↑s.i : Int) ∧ AVal.int IntKind.i64 (0 : Int) = AVal.int IntKind.i64 (1 : Int) ∧ x.n = s.n ∧ IntKind.i64.wrap (x.j + 1) = s.j ∧ I3 l ab (1 :
 Int) s ∧ (l.length - s.i - 1) * 10000 + 1 + (s.n - s.j).toNat < (l.length - x.i - 1) * 10000 + 1 + (x.n - x.j).toNat ∧ True) ∧ (b = false → ∃ (s : LS), l = l ∧ ab = ab ∧ aL l ab (x.i + 1) = aL l ab (s.i + 1) ∧ oL (x.i +
 1) = oL (s.i + 1) ∧ x.q0 = s.q0 ∧ x.q1 = s.q1 ∧ x.q2 = s.q2 ∧ IntKind.i64.wrap (x.w0 + 1) = s.w0 ∧ x.w1 = s.w1 ∧ x.w2 = s.w2 ∧ x.w3 = s.w3 ∧ (↑x.i : Int) = (↑s.i : Int) ∧ AVal.int IntKind.i64 (0 : Int) = AVal.int
 IntKind.i64 (2 : Int) ∧ x.n = s.n ∧ IntKind.i64.wrap (x.j + 1) = s.j ∧ I3 l ab (2 : Int) s ∧ (l.length - s.i - 1) * 10000 + 1 + (s.n - s.j).toNat < (l.length - x.i - 1) * 10000 + 1 + (x.n - x.j).toNat ∧ True))))))))) ∧
 (decide (x.j < x.n) = false → ((0 : Int) ≤ x.n ∧ x.n ≤ (↑x.q0.length : Int) ∧ (↑x.q0.length : Int) ≤ (↑x.q0.length : Int)) ∧ ∃ (s : LS), l = l ∧ ab = ab ∧ aL l ab (x.i + 1) = aL l ab s.i ∧ oL (x.i + 1) = oL s.i ∧
 List.take ((↑x.q0.length : Int).toNat - x.n.toNat) (List.drop x.n.toNat x.q0) = s.q0 ∧ x.q1 = s.q1 ∧ x.q2 = s.q2 ∧ x.w0 = s.w0 ∧ x.w1 = s.w1 ∧ x.w2 = s.w2 ∧ x.w3 = s.w3 ∧ IntKind.i64.wrap ((↑x.i : Int) + 1) = (↑s.i :
 Int) ∧ I1 l ab s ∧ (l.length - s.i) * 10000 < (l.length - x.i - 1) * 10000 + 1 + (x.n - x.j).toNat ∧ True)) := by kernel_rfl
theorem lw_131 (l : List Cl) (ab : List Bool) (x : LS) : Go.Sy.Tree.holds (cutVC F (lookC qL) 300 Try.f4 bL (lwF l ab) 13 (c2 l ab 1) x) = ( (decide ((↑x.i : Int) < (↑ab.length : Int)) = true → ((0 : Int) ≤ (↑x.i : Int) ∧
 (↑x.i : Int) < (↑ab.length : Int)) ∧ (at1 ab (↑x.i : Int) = true → ((aL l ab x.i).length + [Att.mk (thL l x.i) (IntKind.i64.wrap ((↑x.i : Int) + 1)) false (0 : Int) (0 : Int) (7 : Int) (0 : Int) (0 : Int) [] [] [] [Wo.mk
 (1 : Int) (kd (at2 l (↑x.i : Int)).ki)]].length) * 160 ≤ 140737488355328 ∧ ((oL x.i).length + [(↑x.i : Int)].length) * 8 ≤ 140737488355328 ∧ ∃ (s : LS), l = l ∧ ab = ab ∧ aL l ab x.i ++ [Att.mk (thL l x.i)
 (IntKind.i64.wrap ((↑x.i : Int) + 1)) false (0 : Int) (0 : Int) (7 : Int) (0 : Int) (0 : Int) [] [] [] [Wo.mk (1 : Int) (kd (at2 l (↑x.i : Int)).ki)]] = aL l ab s.i ∧ oL x.i ++ [(↑x.i : Int)] = oL s.i ∧ x.q0 = s.q0 ∧
 x.q1 = s.q1 ∧ x.q2 = s.q2 ∧ x.w0 = s.w0 ∧ x.w1 = s.w1 ∧ x.w2 = s.w2 ∧ x.w3 = s.w3 ∧ IntKind.i64.wrap ((↑x.i : Int) + 1) = (↑s.i : Int) ∧ I1 l ab s ∧ (l.length - s.i) * 10000 < (l.length - x.i - 1) * 10000 + 9000 ∧ True)
 ∧ (at1 ab (↑x.i : Int) = false → ((aL l ab x.i).length + [Att.mk (thL l x.i) (IntKind.i64.wrap ((↑x.i : Int) + 1)) false (0 : Int) (0 : Int) (6 : Int) (0 : Int) (0 : Int) [] [] [] [Wo.mk (1 : Int) (kd (at2 l (↑x.i :
 Int)).ki)]].length) * 160 ≤ 140737488355328 ∧ ((oL x.i).length + [(↑x.i : Int)].length) * 8 ≤ 140737488355328 ∧ (false = true → ∃ (s : LS), l = l ∧ ab = ab ∧ aL l ab x.i ++ [Att.mk (thL l x.i) (IntKind.i64.wrap ((↑x.i :
 Int) + 1)) false (0 : Int) (0 : Int) (6 : Int) (0 : Int) (0 : Int) [] [] [] [Wo.mk (1 : Int) (kd (at2 l (↑x.i : Int)).ki)]] = aL l ab s.i ∧ oL x.i ++ [(↑x.i : Int)] = oL s.i ∧ x.q0 = s.q0 ∧ x.q1 = s.q1 ∧ x.q2 = s.q2 ∧
 x.w0 = s.w0 ∧ x.w1 = s.w1 ∧ x.w2 = s.w2 ∧ x.w3 = s.w3 ∧ IntKind.i64.wrap ((↑x.i : Int) + 1) = (↑s.i : Int) ∧ I1 l ab s ∧ (l.length - s.i) * 10000 < (l.length - x.i - 1) * 10000 + 9000 ∧ True) ∧ (false = false → ((kd (at2
 l (↑x.i : Int)).ki == 10) = true → (x.q1.length + [thL l x.i].length) * 8 ≤ 140737488355328 ∧ ∃ (b : Bool), (b = true → ∃ (s : LS), l = l ∧ ab = ab ∧ aL l ab x.i ++ [Att.mk (thL l x.i) (IntKind.i64.wrap ((↑x.i : Int) +
 1)) false (0 : Int) (0 : Int) (6 : Int) (0 : Int) (0 : Int) [] [] [] [Wo.mk (1 : Int) (kd (at2 l (↑x.i : Int)).ki)]] = aL l ab (s.i + 1) ∧ oL x.i ++ [(↑x.i : Int)] = oL (s.i + 1) ∧ x.q0 = s.q0 ∧ x.q1 ++ [thL l x.i] =
 s.q1 ∧ x.q2 = s.q2 ∧ x.w0 = s.w0 ∧ x.w1 = s.w1 ∧ x.w2 = s.w2 ∧ x.w3 = s.w3 ∧ (↑x.i : Int) = (↑s.i : Int) ∧ AVal.int IntKind.i64 (1 : Int) = AVal.int IntKind.i64 (0 : Int) ∧ (0 : Int) = s.n ∧ (0 : Int) = s.j ∧ I3 l ab (0
 : Int) s ∧ (l.length - s.i - 1) * 10000 + 1 + (s.n - s.j).toNat < (l.length - x.i - 1) * 10000 + 9000 ∧ True) ∧ (b = false → ∃ (b : Bool), (b = true → ∃ (s : LS), l = l ∧ ab = ab ∧ aL l ab x.i ++ [Att.mk (thL l x.i)
 (IntKind.i64.wrap ((↑x.i : Int) + 1)) false (0 : Int) (0 : Int) (6 : Int) (0 : Int) (0 : Int) [] [] [] [Wo.mk (1 : Int) (kd (at2 l (↑x.i : Int)).ki)]] = aL l ab (s.i + 1) ∧ oL x.i ++ [(↑x.i : Int)] = oL (s.i + 1) ∧ x.q0
 = s.q0 ∧ x.q1 ++ [thL l x.i] = s.q1 ∧ x.q2 = s.q2 ∧ x.w0 = s.w0 ∧ x.w1 = s.w1 ∧ x.w2 = s.w2 ∧ x.w3 = s.w3 ∧ (↑x.i : Int) = (↑s.i : Int) ∧ AVal.int IntKind.i64 (1 : Int) = AVal.int IntKind.i64 (1 : Int) ∧ (0 : Int) = s.n
 ∧ (0 : Int) = s.j ∧ I3 l ab (1 : Int) s ∧ (l.length - s.i - 1) * 10000 + 1 + (s.n - s.j).toNat < (l.length - x.i - 1) * 10000 + 9000 ∧ True) ∧ (b = false → ∃ (s : LS), l = l ∧ ab = ab ∧ aL l ab x.i ++ [Att.mk (thL l x.i)
 (IntKind.i64.wrap ((↑x.i : Int) + 1)) false (0 : Int) (0 : Int) (6 : Int) (0 : Int) (0 : Int) [] [] [] [Wo.mk (1 : Int) (kd (at2 l (↑x.i : Int)).ki)]] = aL l ab (s.i + 1) ∧ oL x.i ++ [(↑x.i : Int)] = oL (s.i + 1) ∧ x.q0
 = s.q0 ∧ x.q1 ++ [thL l x.i] = s.q1 ∧ x.q2 = s.q2 ∧ x.w0 = s.w0 ∧ x.w1 = s.w1 ∧ x.w2 = s.w2 ∧ x.w3 = s.w3 ∧ (↑x.i : Int) = (↑s.i : Int) ∧ AVal.int IntKind.i64 (1 : Int) = AVal.int IntKind.i64 (2 : Int) ∧ (0 : Int) = s.n
 ∧ (0 : Int) = s.j ∧ I3 l ab (2 : Int) s ∧ (l.length - s.i - 1) * 10000 + 1 + (s.n - s.j).toNat < (l.length - x.i - 1) * 10000 + 9000 ∧ True))) ∧ ((kd (at2 l (↑x.i : Int)).ki == 10) = false → ((kd (at2 l (↑x.i : Int)).ki
 == 13) = true → ∃ (b : Bool), (b = true → ∃ (s : LS), l = l ∧ ab = ab ∧ aL l ab x.i ++ [Att.mk (thL l x.i) (IntKind.i64.wrap ((↑x.i : Int) + 1)) false (0 : Int) (0 : Int) (6 : Int) (0 : Int) (0 : Int) [] [] [] [Wo.mk (1
 : Int) (kd (at2 l (↑x.i : Int)).ki)]] = aL l ab (s.i + 1) ∧ oL x.i ++ [(↑x.i : Int)] = oL (s.i + 1) ∧ x.q0 = s.q0 ∧ x.q1 = s.q1 ∧ x.q2 = s.q2 ∧ x.w0 = s.w0 ∧ x.w1 = s.w1 ∧ x.w2 = s.w2 ∧ x.w3 = s.w3 ∧ (↑x.i : Int) = (↑s.i
 : Int) ∧ AVal.int IntKind.i64 (1 : Int) = AVal.int IntKind.i64 (0 : Int) ∧ (bif false then if (1 : Int) < (↑x.q1.length : Int) then (↑x.q1.length : Int) else (1 : Int) else if (↑x.q1.length : Int) < 1 then (↑x.q1.length
 : Int) else (1 : Int)) = s.n ∧ (0 : Int) = s.j ∧ I3 l ab (0 : Int) s ∧ (l.length - s.i - 1) * 10000 + 1 + (s.n - s.j).toNat < (l.length - x.i - 1) * 10000 + 9000 ∧ True) ∧ (b = false → ∃ (b : Bool), (b = true → ∃ (s :
 LS), l = l ∧ ab = ab ∧ aL l ab x.i ++ [Att.mk (thL l x.i) (IntKind.i64.wrap ((↑x.i : Int) + 1)) false (0 : Int) (0 : Int) (6 : Int) (0 : Int) (0 : Int) [] [] [] [Wo.mk (1 : Int) (kd (at2 l (↑x.i : Int)).ki)]] = aL l ab
 (s.i + 1) ∧ oL x.i ++ [(↑x.i : Int)] = oL (s.i + 1) ∧ x.q0 = s.q0 ∧ x.q1 = s.q1 ∧ x.q2 = s.q2 ∧ x.w0 = s.w0 ∧ x.w1 = s.w1 ∧ x.w2 = s.w2 ∧ x.w3 = s.w3 ∧ (↑x.i : Int) = (↑s.i : Int) ∧ AVal.int IntKind.i64 (1 : Int) =
 AVal.int IntKind.i64 (1 : Int) ∧ (bif false then if (1 : Int) < (↑x.q1.length : Int) then (↑x.q1.length : Int) else (1 : Int) else if (↑x.q1.length : Int) < 1 then (↑x.q1.length : Int) else (1 : Int)) = s.n ∧ (0 : Int) =
 s.j ∧ I3 l ab (1 : Int) s ∧ (l.length - s.i - 1) * 10000 + 1 + (s.n - s.j).toNat < (l.length - x.i - 1) * 10000 + 9000 ∧ True) ∧ (b = false → ∃ (s : LS), l = l ∧ ab = ab ∧ aL l ab x.i ++ [Att.mk (thL l x.i)
 (IntKind.i64.wrap ((↑x.i : Int) + 1)) false (0 : Int) (0 : Int) (6 : Int) (0 : Int) (0 : Int) [] [] [] [Wo.mk (1 : Int) (kd (at2 l (↑x.i : Int)).ki)]] = aL l ab (s.i + 1) ∧ oL x.i ++ [(↑x.i : Int)] = oL (s.i + 1) ∧ x.q0
 = s.q0 ∧ x.q1 = s.q1 ∧ x.q2 = s.q2 ∧ x.w0 = s.w0 ∧ x.w1 = s.w1 ∧ x.w2 = s.w2 ∧ x.w3 = s.w3 ∧ (↑x.i : Int) = (↑s.i : Int) ∧ AVal.int IntKind.i64 (1 : Int) = AVal.int IntKind.i64 (2 : Int) ∧ (bif false then if (1 : Int) <
 (↑x.q1.length : Int) then (↑x.q1.length : Int) else (1 : Int) else if (↑x.q1.length : Int) < 1 then (↑x.q1.length : Int) else (1 : Int)) = s.n ∧ (0 : Int) = s.j ∧ I3 l ab (2 : Int) s ∧ (l.length - s.i - 1) * 10000 + 1 +
 (s.n - s.j).toNat < (l.length - x.i - 1) * 10000 + 9000 ∧ True))) ∧ ((kd (at2 l (↑x.i : Int)).ki == 13) = false → ∃ (b : Bool), (b = true → ∃ (s : LS), l = l ∧ ab = ab ∧ aL l ab x.i ++ [Att.mk (thL l x.i)
 (IntKind.i64.wrap ((↑x.i : Int) + 1)) false (0 : Int) (0 : Int) (6 : Int) (0 : Int) (0 : Int) [] [] [] [Wo.mk (1 : Int) (kd (at2 l (↑x.i : Int)).ki)]] = aL l ab (s.i + 1) ∧ oL x.i ++ [(↑x.i : Int)] = oL (s.i + 1) ∧ x.q0
 = s.q0 ∧ x.q1 = s.q1 ∧ x.q2 = s.q2 ∧ x.w0 = s.w0 ∧ x.w1 = s.w1 ∧ x.w2 = s.w2 ∧ x.w3 = s.w3 ∧ (↑x.i : Int) = (↑s.i : Int) ∧ AVal.int IntKind.i64 (1 : Int) = AVal.int IntKind.i64 (0 : Int) ∧ (↑x.q1.length : Int) = s.n ∧ (0
 : Int) = s.j ∧ I3 l ab (0 : Int) s ∧ (l.length - s.i - 1) * 10000 + 1 + (s.n - s.j).toNat < (l.length - x.i - 1) * 10000 + 9000 ∧ True) ∧ (b = false → ∃ (b : Bool), (b = true → ∃ (s : LS), l = l ∧ ab = ab ∧ aL l ab x.i
 ++ [Att.mk (thL l x.i) (IntKind.i64.wrap ((↑x.i : Int) + 1)) false (0 : Int) (0 : Int) (6 : Int) (0 : Int) (0 : Int) [] [] [] [Wo.mk (1 : Int) (kd (at2 l (↑x.i : Int)).ki)]] = aL l ab (s.i + 1) ∧ oL x.i ++ [(↑x.i : Int)]
 = oL (s.i + 1) ∧ x.q0 = s.q0 ∧ x.q1 = s.q1 ∧ x.q2 = s.q2 ∧ x.w0 = s.w0 ∧ x.w1 = s.w1 ∧ x.w2 = s.w2 ∧ x.w3 = s.w3 ∧ (↑x.i : Int) = (↑s.i : Int) ∧ AVal.int IntKind.i64 (1 : Int) = AVal.int IntKind.i64 (1 : Int) ∧
 (↑x.q1.length : Int) = s.n ∧ (0 : Int) = s.j ∧ I3 l ab (1 : Int) s ∧ (l.length - s.i - 1) * 10000 + 1 + (s.n - s.j).toNat < (l.length - x.i - 1) * 10000 + 9000 ∧ True) ∧ (b = false → ∃ (s : LS), l = l ∧ ab = ab ∧ aL l ab
 x.i ++ [Att.mk (thL l x.i) (IntKind.i64.wrap ((↑x.i : Int) + 1)) false (0 : Int) (0 : Int) (6 : Int) (0 : Int) (0 : Int) [] [] [] [Wo.mk (1 : Int) (kd (at2 l (↑x.i : Int)).ki)]] = aL l ab (s.i + 1) ∧ oL x.i ++ [(↑x.i :
 Int)] = oL (s.i + 1) ∧ x.q0 = s.q0 ∧ x.q1 = s.q1 ∧ x.q2 = s.q2 ∧ x.w0 = s.w0 ∧ x.w1 = s.w1 ∧ x.w2 = s.w2 ∧ x.w3 = s.w3 ∧ (↑x.i : Int) = (↑s.i : Int) ∧ AVal.int IntKind.i64 (1 : Int) = AVal.int IntKind.i64 (2 : Int) ∧
 (↑x.q1.length : Int) = s.n ∧ (0 : Int) = s.j ∧ I3 l ab (2 : Int) s ∧ (l.length - s.i - 1) * 10000 + 1 + (s.n - s.j).toNat < (l.length - x.i - 1) * 10000 + 9000 ∧ True))))))) ∧ (decide ((↑x.i : Int) < (↑ab.length : Int))
 = false → ((aL l ab x.i).length + [Att.mk (thL l x.i) (IntKind.i64.wrap ((↑x.i : Int) + 1)) false (0 : Int) (0 : Int) (6 : Int) (0 : Int) (0 : Int) [] [] [] [Wo.mk (1 : Int) (kd (at2 l (↑x.i : Int)).ki)]].length) * 160 ≤
 140737488355328 ∧ ((oL x.i).length + [(↑x.i : Int)].length) * 8 ≤ 140737488355328 ∧ (false = true → ∃ (s : LS), l = l ∧ ab = ab ∧ aL l ab x.i ++ [Att.mk (thL l x.i) (IntKind.i64.wrap ((↑x.i : Int) + 1)) false (0 : Int)
 (0 : Int) (6 : Int) (0 : Int) (0 : Int) [] [] [] [Wo.mk (1 : Int) (kd (at2 l (↑x.i : Int)).ki)]] = aL l ab s.i ∧ oL x.i ++ [(↑x.i : Int)] = oL s.i ∧ x.q0 = s.q0 ∧ x.q1 = s.q1 ∧ x.q2 = s.q2 ∧ x.w0 = s.w0 ∧ x.w1 = s.w1 ∧
 x.w2 = s.w2 ∧ x.w3 = s.w3 ∧ IntKind.i64.wrap ((↑x.i : Int) + 1) = (↑s.i : Int) ∧ I1 l ab s ∧ (l.length - s.i) * 10000 < (l.length - x.i - 1) * 10000 + 9000 ∧ True) ∧ (false = false → ((kd (at2 l (↑x.i : Int)).ki == 10) =
 true → (x.q1.length + [thL l x.i].length) * 8 ≤ 140737488355328 ∧ ∃ (b : Bool), (b = true → ∃ (s : LS), l = l ∧ ab = ab ∧ aL l ab x.i ++ [Att.mk (thL l x.i) (IntKind.i64.wrap ((↑x.i : Int) + 1)) false (0 : Int) (0 : Int)
 (6 : Int) (0 : Int) (0 : Int) [] [] [] [Wo.mk (1 : Int) (kd (at2 l (↑x.i : Int)).ki)]] = aL l ab (s.i + 1) ∧ oL x.i ++ [(↑x.i : Int)] = oL (s.i + 1) ∧ x.q0 = s.q0 ∧ x.q1 ++ [thL l x.i] = s.q1 ∧ x.q2 = s.q2 ∧ x.w0 = s.w0
 ∧ x.w1 = s.w1 ∧ x.w2 = s.w2 ∧ x.w3 = s.w3 ∧ (↑x.i : Int) = (↑s.i : Int) ∧ AVal.int IntKind.i64 (1 : Int) = AVal.int IntKind.i64 (0 : Int) ∧ (0 : Int) = s.n ∧ (0 : Int) = s.j ∧ I3 l ab (0 : Int) s ∧ (l.length - s.i - 1) *
 10000 + 1 + (s.n - s.j).toNat < (l.length - x.i - 1) * 10000 + 9000 ∧ True) ∧ (b = false → ∃ (b : Bool), (b = true → ∃ (s : LS), l = l ∧ ab = ab ∧ aL l ab x.i ++ [Att.mk (thL l x.i) (IntKind.i64.wrap ((↑x.i : Int) + 1))
 false (0 : Int) (0 : Int) (6 : Int) (0 : Int) (0 : Int) [] [] [] [Wo.mk (1 : Int) (kd (at2 l (↑x.i : Int)).ki)]] = aL l ab (s.i + 1) ∧ oL x.i ++ [(↑x.i : Int)] = oL (s.i + 1) ∧ x.q0 = s.q0 ∧ x.q1 ++ [thL l x.i] = s.q1 ∧
 x.q2 = s.q2 ∧ x.w0 = s.w0 ∧ x.w1 = s.w1 ∧ x.w2 = s.w2 ∧ x.w3 = s.w3 ∧ (↑x.i : Int) = (↑s.i : Int) ∧ AVal.int IntKind.i64 (1 : Int) = AVal.int IntKind.i64 (1 : Int) ∧ (0 : Int) = s.n ∧ (0 : Int) = s.j ∧ I3 l ab (1 : Int)
 s ∧ (l.length - s.i - 1) * 10000 + 1 + (s.n - s.j).toNat < (l.length - x.i - 1) * 10000 + 9000 ∧ True) ∧ (b = false → ∃ (s : LS), l = l ∧ ab = ab ∧ aL l ab x.i ++ [Att.mk (thL l x.i) (IntKind.i64.wrap ((↑x.i : Int) + 1))
 false (0 : Int) (0 : Int) (6 : Int) (0 : Int) (0 : Int) [] [] [] [Wo.mk (1 : Int) (kd (at2 l (↑x.i : Int)).ki)]] = aL l ab (s.i + 1) ∧ oL x.i ++ [(↑x.i : Int)] = oL (s.i + 1) ∧ x.q0 = s.q0 ∧ x.q1 ++ [thL l x.i] = s.q1 ∧
 x.q2 = s.q2 ∧ x.w0 = s.w0 ∧ x.w1 = s.w1 ∧ x.w2 = s.w2 ∧ x.w3 = s.w3 ∧ (↑x.i : Int) = (↑s.i : Int) ∧ AVal.int IntKind.i64 (1 : Int) = AVal.int IntKind.i64 (2 : Int) ∧ (0 : Int) = s.n ∧ (0 : Int) = s.j ∧ I3 l ab (2 : Int)
 s ∧ (l.length - s.i - 1) * 10000 + 1 + (s.n - s.j).toNat < (l.length - x.i - 1) * 10000 + 9000 ∧ True))) ∧ ((kd (at2 l (↑x.i : Int)).ki == 10) = false → ((kd (at2 l (↑x.i : Int)).ki == 13) = true → ∃ (b : Bool), (b =
 true → ∃ (s : LS), l = l ∧ ab = ab ∧ aL l ab x.i ++ [Att.mk (thL l x.i) (IntKind.i64.wrap ((↑x.i : Int) + 1)) false (0 : Int) (0 : Int) (6 : Int) (0 : Int) (0 : Int) [] [] [] [Wo.mk (1 : Int) (kd (at2 l (↑x.i :
 Int)).ki)]] = aL l ab (s.i + 1) ∧ oL x.i ++ [(↑x.i : Int)] = oL (s.i + 1) ∧ x.q0 = s.q0 ∧ x.q1 = s.q1 ∧ x.q2 = s.q2 ∧ x.w0 = s.w0 ∧ x.w1 = s.w1 ∧ x.w2 = s.w2 ∧ x.w3 = s.w3 ∧ (↑x.i : Int) = (↑s.i : Int) ∧ AVal.int
 IntKind.i64 (1 : Int) = AVal.int IntKind.i64 (0 : Int) ∧ (bif false then if (1 : Int) < (↑x.q1.length : Int) then (↑x.q1.length : Int) else (1 : Int) else if (↑x.q1.length : Int) < 1 then (↑x.q1.length : Int) else (1 :
 Int)) = s.n ∧ (0 : Int) = s.j ∧ I3 l ab (0 : Int) s ∧ (l.length - s.i - 1) * 10000 + 1 + (s.n - s.j).toNat < (l.length - x.i - 1) * 10000 + 9000 ∧ True) ∧ (b = false → ∃ (b : Bool), (b = true → ∃ (s : LS), l = l ∧ ab =
 ab ∧ aL l ab x.i ++ [Att.mk (thL l x.i) (IntKind.i64.wrap ((↑x.i : Int) + 1)) false (0 : Int) (0 : Int) (6 : Int) (0 : Int) (0 : Int) [] [] [] [Wo.mk (1 : Int) (kd (at2 l (↑x.i : Int)).ki)]] = aL l ab (s.i + 1) ∧ oL x.i
 ++ [(↑x.i : Int)] = oL (s.i + 1) ∧ x.q0 = s.q0 ∧ x.q1 = s.q1 ∧ x.q2 = s.q2 ∧ x.w0 = s.w0 ∧ x.w1 = s.w1 ∧ x.w2 = s.w2 ∧ x.w3 = s.w3 ∧ (↑x.i : Int) = (↑s.i : Int) ∧ AVal.int IntKind.i64 (1 : Int) = AVal.int IntKind.i64 (1
 : Int) ∧ (bif false then if (1 : Int) < (↑x.q1.length : Int) then (↑x.q1.length : Int) else (1 : Int) else if (↑x.q1.length : Int) < 1 then (↑x.q1.length : Int) else (1 : Int)) = s.n ∧ (0 : Int) = s.j ∧ I3 l ab (1 : Int)
 s ∧ (l.length - s.i - 1) * 10000 + 1 + (s.n - s.j).toNat < (l.length - x.i - 1) * 10000 + 9000 ∧ True) ∧ (b = false → ∃ (s : LS), l = l ∧ ab = ab ∧ aL l ab x.i ++ [Att.mk (thL l x.i) (IntKind.i64.wrap ((↑x.i : Int) + 1))
 false (0 : Int) (0 : Int) (6 : Int) (0 : Int) (0 : Int) [] [] [] [Wo.mk (1 : Int) (kd (at2 l (↑x.i : Int)).ki)]] = aL l ab (s.i + 1) ∧ oL x.i ++ [(↑x.i : Int)] = oL (s.i + 1) ∧ x.q0 = s.q0 ∧ x.q1 = s.q1 ∧ x.q2 = s.q2 ∧
 x.w0 = s.w0 ∧ x.w1 = s.w1 ∧ x.w2 = s.w2 ∧ x.w3 = s.w3 ∧ (↑x.i : Int) = (↑s.i : Int) ∧ AVal.int IntKind.i64 (1 : Int) = AVal.int IntKind.i64 (2 : Int) ∧ (bif false then if (1 : Int) < (↑x.q1.length : Int) then
 (↑x.q1.length : Int) else (1 : Int) else if (↑x.q1.length : Int) < 1 then (↑x.q1.length : Int) else (1 : Int)) = s.n ∧ (0 : Int) = s.j ∧ I3 l ab (2 : Int) s ∧ (l.length - s.i - 1) * 10000 + 1 + (s.n - s.j).toNat <
 (l.length - x.i - 1) * 10000 + 9000 ∧ True))) ∧ ((kd (at2 l (↑x.i : Int)).ki == 13) = false → ∃ (b : Bool), (b = true → ∃ (s : LS), l = l ∧ ab = ab ∧ aL l ab x.i ++ [Att.mk (thL l x.i) (IntKind.i64.wrap ((↑x.i : Int) +
 1)) false (0 : Int) (0 : Int) (6 : Int) (0 : Int) (0 : Int) [] [] [] [Wo.mk (1 : Int) (kd (at2 l (↑x.i : Int)).ki)]] = aL l ab (s.i + 1) ∧ oL x.i ++ [(↑x.i : Int)] = oL (s.i + 1) ∧ x.q0 = s.q0 ∧ x.q1 = s.q1 ∧ x.q2 = s.q2
 ∧ x.w0 = s.w0 ∧ x.w1 = s.w1 ∧ x.w2 = s.w2 ∧ x.w3 = s.w3 ∧ (↑x.i : Int) = (↑s.i : Int) ∧ AVal.int IntKind.i64 (1 : Int) = AVal.int IntKind.i64 (0 : Int) ∧ (↑x.q1.length : Int) = s.n ∧ (0 : Int) = s.j ∧ I3 l ab (0 : Int) s
 ∧ (l.length - s.i - 1) * 10000 + 1 + (s.n - s.j).toNat < (l.length - x.i - 1) * 10000 + 9000 ∧ True) ∧ (b = false → ∃ (b : Bool), (b = true → ∃ (s : LS), l = l ∧ ab = ab ∧ aL l ab x.i ++ [Att.mk (thL l x.i)
 (IntKind.i64.wrap ((↑x.i : Int) + 1)) false (0 : Int) (0 : Int) (6 : Int) (0 : Int) (0 : Int) [] [] [] [Wo.mk (1 : Int) (kd (at2 l (↑x.i : Int)).ki)]] = aL l ab (s.i + 1) ∧ oL x.i ++ [(↑x.i : Int)] = oL (s.i + 1) ∧ x.q0
 = s.q0 ∧ x.q1 = s.q1 ∧ x.q2 = s.q2 ∧ x.w0 = s.w0 ∧ x.w1 = s.w1 ∧ x.w2 = s.w2 ∧ x.w3 = s.w3 ∧ (↑x.i : Int) = (↑s.i : Int) ∧ AVal.int IntKind.i64 (1 : Int) = AVal.int IntKind.i64 (1 : Int) ∧ (↑x.q1.length : Int) = s.n ∧ (0
 : Int) = s.j ∧ I3 l ab (1 : Int) s ∧ (l.length - s.i - 1) * 10000 + 1 + (s.n - s.j).toNat < (l.length - x.i - 1) * 10000 + 9000 ∧ True) ∧ (b = false → ∃ (s : LS), l = l ∧ ab = ab ∧ aL l ab x.i ++ [Att.mk (thL l x.i)
 (IntKind.i64.wrap ((↑x.i : Int) + 1)) false (0 : Int) (0 : Int) (6 : Int) (0 : Int) (0 : Int) [] [] [] [Wo.mk (1 : Int) (kd (at2 l (↑x.i : Int)).ki)]] = aL l ab (s.i + 1) ∧ oL x.i ++ [(↑x.i : Int)] = oL (s.i + 1) ∧ x.q0
 = s.q0 ∧ x.q1 = s.q1 ∧ x.q2 = s.q2 ∧ x.w0 = s.w0 ∧ x.w1 = s.w1 ∧ x.w2 = s.w2 ∧ x.w3 = s.w3 ∧ (↑x.i : Int) = (↑s.i : Int) ∧ AVal.int IntKind.i64 (1 : Int) = AVal.int IntKind.i64 (2 : Int) ∧ (↑x.q1.length : Int) = s.n ∧ (0
 : Int) = s.j ∧ I3 l ab (2 : Int) s ∧ (l.length - s.i - 1) * 10000 + 1 + (s.n - s.j).toNat < (l.length - x.i - 1) * 10000 + 9000 ∧ True))))))) := by kernel_rfl
theorem lw_251 (l : List Cl) (ab : List Bool) (x : LS) : Go.Sy.Tree.holds (cutVC F (lookC qL) 300 Try.f4 bL (lwF l ab) 25 (c3 l ab 1) x) = ( (decide (x.j < x.n) = true → ((0 : Int) ≤ x.j ∧ x.j < (↑x.q1.length : Int)) ∧
 ((0 : Int) ≤ x.j ∧ x.j < (↑x.q1.length : Int)) ∧ ((0 : Int) ≤ at0 x.q1 x.j ∧ at0 x.q1 x.j < 4) ∧ ((at0 x.q1 x.j == 3) = true → ((0 : Int) ≤ at0 x.q1 x.j ∧ at0 x.q1 x.j < 4) ∧ ((at0 x.q1 x.j == 3) = true → ∃ (b : Bool),
 (b = true → ∃ (s : LS), l = l ∧ ab = ab ∧ aL l ab (x.i + 1) = aL l ab (s.i + 1) ∧ oL (x.i + 1) = oL (s.i + 1) ∧ x.q0 = s.q0 ∧ x.q1 = s.q1 ∧ x.q2 = s.q2 ∧ x.w0 = s.w0 ∧ x.w1 = s.w1 ∧ x.w2 = s.w2 ∧ IntKind.i64.wrap (x.w3 +
 1) = s.w3 ∧ (↑x.i : Int) = (↑s.i : Int) ∧ AVal.int IntKind.i64 (1 : Int) = AVal.int IntKind.i64 (0 : Int) ∧ x.n = s.n ∧ IntKind.i64.wrap (x.j + 1) = s.j ∧ I3 l ab (0 : Int) s ∧ (l.length - s.i - 1) * 10000 + 1 + (s.n -
 s.j).toNat < (l.length - x.i - 1) * 10000 + 1 + (x.n - x.j).toNat ∧ True) ∧ (b = false → ∃ (b : Bool), (b = true → ∃ (s : LS), l = l ∧ ab = ab ∧ aL l ab (x.i + 1) = aL l ab (s.i + 1) ∧ oL (x.i + 1) = oL (s.i + 1) ∧ x.q0
 = s.q0 ∧ x.q1 = s.q1 ∧ x.q2 = s.q2 ∧ x.w0 = s.w0 ∧ x.w1 = s.w1 ∧ x.w2 = s.w2 ∧ IntKind.i64.wrap (x.w3 + 1) = s.w3 ∧ (↑x.i : Int) = (↑s.i : Int) ∧ AVal.int IntKind.i64 (1 : Int) = AVal.int IntKind.i64 (1 : Int) ∧ x.n =
 s.n ∧ IntKind.i64.wrap (x.j + 1) = s.j ∧ I3 l ab (1 : Int) s ∧ (l.length - s.i - 1) * 10000 + 1 + (s.n - s.j).toNat < (l.length - x.i - 1) * 10000 + 1 + (x.n - x.j).toNat ∧ True) ∧ (b = false → ∃ (s : LS), l = l ∧ ab =
 ab ∧ aL l ab (x.i + 1) = aL l ab (s.i + 1) ∧ oL (x.i + 1) = oL (s.i + 1) ∧ x.q0 = s.q0 ∧ x.q1 = s.q1 ∧ x.q2 = s.q2 ∧ x.w0 = s.w0 ∧ x.w1 = s.w1 ∧ x.w2 = s.w2 ∧ IntKind.i64.wrap (x.w3 + 1) = s.w3 ∧ (↑x.i : Int) = (↑s.i :
 Int) ∧ AVal.int IntKind.i64 (1 : Int) = AVal.int IntKind.i64 (2 : Int) ∧ x.n = s.n ∧ IntKind.i64.wrap (x.j + 1) = s.j ∧ I3 l ab (2 : Int) s ∧ (l.length - s.i - 1) * 10000 + 1 + (s.n - s.j).toNat < (l.length - x.i - 1) *
 10000 + 1 + (x.n - x.j).toNat ∧ True))) ∧ ((at0 x.q1 x.j == 3) = false → ((at0 x.q1 x.j == 2) = true → ∃ (b : Bool), (b = true → ∃ (s : LS), l = l ∧ ab = ab ∧ aL l ab (x.i + 1) = aL l ab (s.i + 1) ∧ oL (x.i + 1) = oL
 (s.i + 1) ∧ x.q0 = s.q0 ∧ x.q1 = s.q1 ∧ x.q2 = s.q2 ∧ x.w0 = s.w0 ∧ x.w1 = s.w1 ∧ IntKind.i64.wrap (x.w3 + 1) = s.w2 ∧ x.w3 = s.w3 ∧ (↑x.i : Int) = (↑s.i : Int) ∧ AVal.int IntKind.i64 (1 : Int) = AVal.int IntKind.i64 (0
 : Int) ∧ x.n = s.n ∧ IntKind.i64.wrap (x.j + 1) = s.j ∧ I3 l ab (0 : Int) s ∧ (l.length - s.i - 1) * 10000 + 1 + (s.n - s.j).toNat < (l.length - x.i - 1) * 10000 + 1 + (x.n - x.j).toNat ∧ True) ∧ (b = false → ∃ (b :
 Bool), (b = true → ∃ (s : LS), l = l ∧ ab = ab ∧ aL l ab (x.i + 1) = aL l ab (s.i + 1) ∧ oL (x.i + 1) = oL (s.i + 1) ∧ x.q0 = s.q0 ∧ x.q1 = s.q1 ∧ x.q2 = s.q2 ∧ x.w0 = s.w0 ∧ x.w1 = s.w1 ∧ IntKind.i64.wrap (x.w3 + 1) =
 s.w2 ∧ x.w3 = s.w3 ∧ (↑x.i : Int) = (↑s.i : Int) ∧ AVal.int IntKind.i64 (1 : Int) = AVal.int IntKind.i64 (1 : Int) ∧ x.n = s.n ∧ IntKind.i64.wrap (x.j + 1) = s.j ∧ I3 l ab (1 : Int) s ∧ (l.length - s.i - 1) * 10000 + 1 +
 (s.n - s.j).toNat < (l.length - x.i - 1) * 10000 + 1 + (x.n - x.j).toNat ∧ True) ∧ (b = false → ∃ (s : LS), l = l ∧ ab = ab ∧ aL l ab (x.i + 1) = aL l ab (s.i + 1) ∧ oL (x.i + 1) = oL (s.i + 1) ∧ x.q0 = s.q0 ∧ x.q1 =
 s.q1 ∧ x.q2 = s.q2 ∧ x.w0 = s.w0 ∧ x.w1 = s.w1 ∧ IntKind.i64.wrap (x.w3 + 1) = s.w2 ∧ x.w3 = s.w3 ∧ (↑x.i : Int) = (↑s.i : Int) ∧ AVal.int IntKind.i64 (1 : Int) = AVal.int IntKind.i64 (2 : Int) ∧ x.n = s.n ∧
 IntKind.i64.wrap (x.j + 1) = s.j ∧ I3 l ab (2 : Int) s ∧ (l.length - s.i - 1) * 10000 + 1 + (s.n - s.j).toNat < (l.length - x.i - 1) * 10000 + 1 + (x.n - x.j).toNat ∧ True))) ∧ ((at0 x.q1 x.j == 2) = false → ((at0 x.q1
 x.j == 1) = true → ∃ (b : Bool), (b = true → ∃ (s : LS), l = l ∧ ab = ab ∧ aL l ab (x.i + 1) = aL l ab (s.i + 1) ∧ oL (x.i + 1) = oL (s.i + 1) ∧ x.q0 = s.q0 ∧ x.q1 = s.q1 ∧ x.q2 = s.q2 ∧ x.w0 = s.w0 ∧ IntKind.i64.wrap
 (x.w3 + 1) = s.w1 ∧ x.w2 = s.w2 ∧ x.w3 = s.w3 ∧ (↑x.i : Int) = (↑s.i : Int) ∧ AVal.int IntKind.i64 (1 : Int) = AVal.int IntKind.i64 (0 : Int) ∧ x.n = s.n ∧ IntKind.i64.wrap (x.j + 1) = s.j ∧ I3 l ab (0 : Int) s ∧
 (l.length - s.i - 1) * 10000 + 1 + (s.n - s.j).toNat < (l.length - x.i - 1) * 10000 + 1 + (x.n - x.j).toNat ∧ True) ∧ (b = false → ∃ (b : Bool), (b = true → ∃ (s : LS), l = l ∧ ab = ab ∧ aL l ab (x.i + 1) = aL l ab (s.i
 + 1) ∧ oL (x.i + 1) = oL (s.i + 1) ∧ x.q0 = s.q0 ∧ x.q1 = s.q1 ∧ x.q2 = s.q2 ∧ x.w0 = s.w0 ∧ IntKind.i64.wrap (x.w3 + 1) = s.w1 ∧ x.w2 = s.w2 ∧ x.w3 = s.w3 ∧ (↑x.i : Int) = (↑s.i : Int) ∧ AVal.int IntKind.i64 (1 : Int) =
 AVal.int IntKind.i64 (1 : Int) ∧ x.n = s.n ∧ IntKind.i64.wrap (x.j + 1) = s.j ∧ I3 l ab (1 : Int) s ∧ (l.length - s.i - 1) * 10000 + 1 + (s.n - s.j).toNat < (l.length - x.i - 1) * 10000 + 1 + (x.n - x.j).toNat ∧ True) ∧
 (b = false → ∃ (s : LS), l = l ∧ ab = ab ∧ aL l ab (x.i + 1) = aL l ab (s.i + 1) ∧ oL (x.i + 1) = oL (s.i + 1) ∧ x.q0 = s.q0 ∧ x.q1 = s.q1 ∧ x.q2 = s.q2 ∧ x.w0 = s.w0 ∧ IntKind.i64.wrap (x.w3 + 1) = s.w1 ∧ x.w2 = s.w2 ∧
 x.w3 = s.w3 ∧ (↑x.i : Int) = (↑s.i : Int) ∧ AVal.int IntKind.i64 (1 : Int) = AVal.int IntKind.i64 (2 : Int) ∧ x.n = s.n ∧ IntKind.i64.wrap (x.j + 1) = s.j ∧ I3 l ab (2 : Int) s ∧ (l.length - s.i - 1) * 10000 + 1 + (s.n -
 s.j).toNat < (l.length - x.i - 1) * 10000 + 1 + (x.n - x.j).toNat ∧ True))) ∧ ((at0 x.q1 x.j == 1) = false → ∃ (b : Bool), (b = true → ∃ (s : LS), l = l ∧ ab = ab ∧ aL l ab (x.i + 1) = aL l ab (s.i + 1) ∧ oL (x.i + 1) =
 oL (s.i + 1) ∧ x.q0 = s.q0 ∧ x.q1 = s.q1 ∧ x.q2 = s.q2 ∧ IntKind.i64.wrap (x.w3 + 1) = s.w0 ∧ x.w1 = s.w1 ∧ x.w2 = s.w2 ∧ x.w3 = s.w3 ∧ (↑x.i : Int) = (↑s.i : Int) ∧ AVal.int IntKind.i64 (1 : Int) = AVal.int IntKind.i64
 (0 : Int) ∧ x.n = s.n ∧ IntKind.i64.wrap (x.j + 1) = s.j ∧ I3 l ab (0 : Int) s ∧ (l.length - s.i - 1) * 10000 + 1 + (s.n - s.j).toNat < (l.length - x.i - 1) * 10000 + 1 + (x.n - x.j).toNat ∧ True) ∧ (b = false → ∃ (b :
 Bool), (b = true → ∃ (s : LS), l = l ∧ ab = ab ∧ aL l ab (x.i + 1) = aL l ab (s.i + 1) ∧ oL (x.i + 1) = oL (s.i + 1) ∧ x.q0 = s.q0 ∧ x.q1 = s.q1 ∧ x.q2 = s.q2 ∧ IntKind.i64.wrap (x.w3 + 1) = s.w0 ∧ x.w1 = s.w1 ∧ x.w2 =
 s.w2 ∧ x.w3 = s.w3 ∧ (↑x.i : Int) = (↑s.i : Int) ∧ AVal.int IntKind.i64 (1 : Int) = AVal.int IntKind.i64 (1 : Int) ∧ x.n = s.n ∧ IntKind.i64.wrap (x.j + 1) = s.j ∧ I3 l ab (1 : Int) s ∧ (l.length - s.i - 1) * 10000 + 1 +
 (s.n - s.j).toNat < (l.length - x.i - 1) * 10000 + 1 + (x.n - x.j).toNat ∧ True) ∧ (b = false → ∃ (s : LS), l = l ∧ ab = ab ∧ aL l ab (x.i + 1) = aL l ab (s.i + 1) ∧ oL (x.i + 1) = oL (s.i + 1) ∧ x.q0 = s.q0 ∧ x.q1 =
 s.q1 ∧ x.q2 = s.q2 ∧ IntKind.i64.wrap (x.w3 + 1) = s.w0 ∧ x.w1 = s.w1 ∧ x.w2 = s.w2 ∧ x.w3 = s.w3 ∧ (↑x.i : Int) = (↑s.i : Int) ∧ AVal.int IntKind.i64 (1 : Int) = AVal.int IntKind.i64 (2 : Int) ∧ x.n = s.n ∧
 IntKind.i64.wrap (x.j + 1) = s.j ∧ I3 l ab (2 : Int) s ∧ (l.length - s.i - 1) * 10000 + 1 + (s.n - s.j).toNat < (l.length - x.i - 1) * 10000 + 1 + (x.n - x.j).toNat ∧ True)))))) ∧ ((at0 x.q1 x.j == 3) = false → ((at0
 x.q1 x.j == 2) = true → ((0 : Int) ≤ at0 x.q1 x.j ∧ at0 x.q1 x.j < 4) ∧ ((at0 x.q1 x.j == 3) = true → ∃ (b : Bool), (b = true → ∃ (s : LS), l = l ∧ ab = ab ∧ aL l ab (x.i + 1) = aL l ab (s.i + 1) ∧ oL (x.i + 1) = oL (s.i
 + 1) ∧ x.q0 = s.q0 ∧ x.q1 = s.q1 ∧ x.q2 = s.q2 ∧ x.w0 = s.w0 ∧ x.w1 = s.w1 ∧ x.w2 = s.w2 ∧ IntKind.i64.wrap (x.w2 + 1) = s.w3 ∧ (↑x.i : Int) = (↑s.i : Int) ∧ AVal.int IntKind.i64 (1 : Int) = AVal.int IntKind.i64 (0 :
 Int) ∧ x.n = s.n ∧ IntKind.i64.wrap (x.j + 1) = s.j ∧ I3 l ab (0 : Int) s ∧ (l.length - s.i - 1) * 10000 + 1 + (s.n - s.j).toNat < (l.length - x.i - 1) * 10000 + 1 + (x.n - x.j).toNat ∧ True) ∧ (b = false → ∃ (b : Bool),
 (b = true → ∃ (s : LS), l = l ∧ ab = ab ∧ aL l ab (x.i + 1) = aL l ab (s.i + 1) ∧ oL (x.i + 1) = oL (s.i + 1) ∧ x.q0 = s.q0 ∧ x.q1 = s.q1 ∧ x.q2 = s.q2 ∧ x.w0 = s.w0 ∧ x.w1 = s.w1 ∧ x.w2 = s.w2 ∧ IntKind.i64.wrap (x.w2 +
 1) = s.w3 ∧ (↑x.i : Int) = (↑s.i : Int) ∧ AVal.int IntKind.i64 (1 : Int) = AVal.int IntKind.i64 (1 : Int) ∧ x.n = s.n ∧ IntKind.i64.wrap (x.j + 1) = s.j ∧ I3 l ab (1 : Int) s ∧ (l.length - s.i - 1) * 10000 + 1 + (s.n -
 s.j).toNat < (l.length - x.i - 1) * 10000 + 1 + (x.n - x.j).toNat ∧ True) ∧ (b = false → ∃ (s : LS), l = l ∧ ab = ab ∧ aL l ab (x.i + 1) = aL l ab (s.i + 1) ∧ oL (x.i + 1) = oL (s.i + 1) ∧ x.q0 = s.q0 ∧ x.q1 = s.q1 ∧
 x.q2 = s.q2 ∧ x.w0 = s.w0 ∧ x.w1 = s.w1 ∧ x.w2 = s.w2 ∧ IntKind.i64.wrap (x.w2 + 1) = s.w3 ∧ (↑x.i : Int) = (↑s.i : Int) ∧ AVal.int IntKind.i64 (1 : Int) = AVal.int IntKind.i64 (2 : Int) ∧ x.n = s.n ∧ IntKind.i64.wrap
 (x.j + 1) = s.j ∧ I3 l ab (2 : Int) s ∧ (l.length - s.i - 1) * 10000 + 1 + (s.n - s.j).toNat < (l.length - x.i - 1) * 10000 + 1 + (x.n - x.j).toNat ∧ True))) ∧ ((at0 x.q1 x.j == 3) = false → ((at0 x.q1 x.j == 2) = true →
 ∃ (b : Bool), (b = true → ∃ (s : LS), l = l ∧ ab = ab ∧ aL l ab (x.i + 1) = aL l ab (s.i + 1) ∧ oL (x.i + 1) = oL (s.i + 1) ∧ x.q0 = s.q0 ∧ x.q1 = s.q1 ∧ x.q2 = s.q2 ∧ x.w0 = s.w0 ∧ x.w1 = s.w1 ∧ IntKind.i64.wrap (x.w2 +
 1) = s.w2 ∧ x.w3 = s.w3 ∧ (↑x.i : Int) = (↑s.i : Int) ∧ AVal.int IntKind.i64 (1 : Int) = AVal.int IntKind.i64 (0 : Int) ∧ x.n = s.n ∧ IntKind.i64.wrap (x.j + 1) = s.j ∧ I3 l ab (0 : Int) s ∧ (l.length - s.i - 1) * 10000
 + 1 + (s.n - s.j).toNat < (l.length - x.i - 1) * 10000 + 1 + (x.n - x.j).toNat ∧ True) ∧ (b = false → ∃ (b : Bool), (b = true → ∃ (s : LS), l = l ∧ ab = ab ∧ aL l ab (x.i + 1) = aL l ab (s.i + 1) ∧ oL (x.i + 1) = oL (s.i
 + 1) ∧ x.q0 = s.q0 ∧ x.q1 = s.q1 ∧ x.q2 = s.q2 ∧ x.w0 = s.w0 ∧ x.w1 = s.w1 ∧ IntKind.i64.wrap (x.w2 + 1) = s.w2 ∧ x.w3 = s.w3 ∧ (↑x.i : Int) = (↑s.i : Int) ∧ AVal.int IntKind.i64 (1 : Int) = AVal.int IntKind.i64 (1 :
 Int) ∧ x.n = s.n ∧ IntKind.i64.wrap (x.j + 1) = s.j ∧ I3 l ab (1 : Int) s ∧ (l.length - s.i - 1) * 10000 + 1 + (s.n - s.j).toNat < (l.length - x.i - 1) * 10000 + 1 + (x.n - x.j).toNat ∧ True) ∧ (b = false → ∃ (s : LS), l
 = l ∧ ab = ab ∧ aL l ab (x.i + 1) = aL l ab (s.i + 1) ∧ oL (x.i + 1) = oL (s.i + 1) ∧ x.q0 = s.q0 ∧ x.q1 = s.q1 ∧ x.q2 = s.q2 ∧ x.w0 = s.w0 ∧ x.w1 = s.w1 ∧ IntKind.i64.wrap (x.w2 + 1) = s.w2 ∧ x.w3 = s.w3 ∧ (↑x.i : Int)
 = (↑s.i : Int) ∧ AVal.int IntKind.i64 (1 : Int) = AVal.int IntKind.i64 (2 : Int) ∧ x.n = s.n ∧ IntKind.i64.wrap (x.j + 1) = s.j ∧ I3 l ab (2 : Int) s ∧ (l.length - s.i - 1) * 10000 + 1 + (s.n - s.j).toNat < (l.length -
 x.i - 1) * 10000 + 1 + (x.n - x.j).toNat ∧ True))) ∧ ((at0 x.q1 x.j == 2) = false → ((at0 x.q1 x.j == 1) = true → ∃ (b : Bool), (b = true → ∃ (s : LS), l = l ∧ ab = ab ∧ aL l ab (x.i + 1) = aL l ab (s.i + 1) ∧ oL (x.i +
 1) = oL (s.i + 1) ∧ x.q0 = s.q0 ∧ x.q1 = s.q1 ∧ x.q2 = s.q2 ∧ x.w0 = s.w0 ∧ IntKind.i64.wrap (x.w2 + 1) = s.w1 ∧ x.w2 = s.w2 ∧ x.w3 = s.w3 ∧ (↑x.i : Int) = (↑s.i : Int) ∧ AVal.int IntKind.i64 (1 : Int) = AVal.int
 IntKind.i64 (0 : Int) ∧ x.n = s.n ∧ IntKind.i64.wrap (x.j + 1) = s.j ∧ I3 l ab (0 : Int) s ∧ (l.length - s.i - 1) * 10000 + 1 + (s.n - s.j).toNat < (l.length - x.i - 1) * 10000 + 1 + (x.n - x.j).toNat ∧ True) ∧ (b =
 false → ∃ (b : Bool), (b = true → ∃ (s : LS), l = l ∧ ab = ab ∧ aL l ab (x.i + 1) = aL l ab (s.i + 1) ∧ oL (x.i + 1) = oL (s.i + 1) ∧ x.q0 = s.q0 ∧ x.q1 = s.q1 ∧ x.q2 = s.q2 ∧ x.w0 = s.w0 ∧ IntKind.i64.wrap (x.w2 + 1) =
 s.w1 ∧ x.w2 = s.w2 ∧ x.w3 = s.w3 ∧ (↑x.i : Int) = (↑s.i : Int) ∧ AVal.int IntKind.i64 (1 : Int) = AVal.int IntKind.i64 (1 : Int) ∧ x.n = s.n ∧ IntKind.i64.wrap (x.j + 1) = s.j ∧ I3 l ab (1 : Int) s ∧ (l.length - s.i - 1)
 * 10000 + 1 + (s.n - s.j).toNat < (l.length - x.i - 1) * 10000 + 1 + (x.n - x.j).toNat ∧ True) ∧ (b = false → ∃ (s : LS), l = l ∧ ab = ab ∧ aL l ab (x.i + 1) = aL l ab (s.i + 1) ∧ oL (x.i + 1) = oL (s.i + 1) ∧ x.q0 =
 s.q0 ∧ x.q1 = s.q1 ∧ x.q2 = s.q2 ∧ x.w0 = s.w0 ∧ IntKind.i64.wrap (x.w2 + 1) = s.w1 ∧ x.w2 = s.w2 ∧ x.w3 = s.w3 ∧ (↑x.i : Int) = (↑s.i : Int) ∧ AVal.int IntKind.i64 (1 : Int) = AVal.int IntKind.i64 (2 : Int) ∧ x.n = s.n
 ∧ IntKind.i64.wrap (x.j + 1) = s.j ∧ I3 l ab (2 : Int) s ∧ (l.length - s.i - 1) * 10000 + 1 + (s.n - s.j).toNat < (l.length - x.i - 1) * 10000 + 1 + (x.n - x.j).toNat ∧ True))) ∧ ((at0 x.q1 x.j == 1) = false → ∃ (b :
 Bool), (b = true → ∃ (s : LS), l = l ∧ ab = ab ∧ aL l ab (x.i + 1) = aL l ab (s.i + 1) ∧ oL (x.i + 1) = oL (s.i + 1) ∧ x.q0 = s.q0 ∧ x.q1 = s.q1 ∧ x.q2 = s.q2 ∧ IntKind.i64.wrap (x.w2 + 1) = s.w0 ∧ x.w1 = s.w1 ∧ x.w2 =
 s.w2 ∧ x.w3 = s.w3 ∧ (↑x.i : Int) = (↑s.i : Int) ∧ AVal.int IntKind.i64 (1 : Int) = AVal.int IntKind.i64 (0 : Int) ∧ x.n = s.n ∧ IntKind.i64.wrap (x.j + 1) = s.j ∧ I3 l ab (0 : Int) s ∧ (l.length - s.i - 1) * 10000 + 1 +
 (s.n - s.j).toNat < (l.length - x.i - 1) * 10000 + 1 + (x.n - x.j).toNat ∧ True) ∧ (b = false → ∃ (b : Bool), (b = true → ∃ (s : LS), l = l ∧ ab = ab ∧ aL l ab (x.i + 1) = aL l ab (s.i + 1) ∧ oL (x.i + 1) = oL (s.i + 1)
 ∧ x.q0 = s.q0 ∧ x.q1 = s.q1 ∧ x.q2 = s.q2 ∧ IntKind.i64.wrap (x.w2 + 1) = s.w0 ∧ x.w1 = s.w1 ∧ x.w2 = s.w2 ∧ x.w3 = s.w3 ∧ (↑x.i : Int) = (↑s.i : Int) ∧ AVal.int IntKind.i64 (1 : Int) = AVal.int IntKind.i64 (1 : Int) ∧
 x.n = s.n ∧ IntKind.i64.wrap (x.j + 1) = s.j ∧ I3 l ab (1 : Int) s ∧ (l.length - s.i - 1) * 10000 + 1 + (s.n - s.j).toNat < (l.length - x.i - 1) * 10000 + 1 + (x.n - x.j).toNat ∧ True) ∧ (b = false → ∃ (s : LS), l = l ∧
 ab = ab ∧ aL l ab (x.i + 1) = aL l ab (s.i + 1) ∧ oL (x.i + 1) = oL (s.i + 1) ∧ x.q0 = s.q0 ∧ x.q1 = s.q1 ∧ x.q2 = s.q2 ∧ IntKind.i64.wrap (x.w2 + 1) = s.w0 ∧ x.w1 = s.w1 ∧ x.w2 = s.w2 ∧ x.w3 = s.w3 ∧ (↑x.i : Int) =
 (↑s.i : Int) ∧ AVal.int IntKind.i64 (1 : Int) = AVal.int IntKind.i64 (2 : Int) ∧ x.n = s.n ∧ IntKind.i64.wrap (x.j + 1) = s.j ∧ I3 l ab (2 : Int) s ∧ (l.length - s.i - 1) * 10000 + 1 + (s.n - s.j).toNat < (l.length - x.i
 - 1) * 10000 + 1 + (x.n - x.j).toNat ∧ True)))))) ∧ ((at0 x.q1 x.j == 2) = false → ((at0 x.q1 x.j == 1) = true → ((0 : Int) ≤ at0 x.q1 x.j ∧ at0 x.q1 x.j < 4) ∧ ((at0 x.q1 x.j == 3) = true → ∃ (b : Bool), (b = true → ∃
 (s : LS), l = l ∧ ab = ab ∧ aL l ab (x.i + 1) = aL l ab (s.i + 1) ∧ oL (x.i + 1) = oL (s.i + 1) ∧ x.q0 = s.q0 ∧ x.q1 = s.q1 ∧ x.q2 = s.q2 ∧ x.w0 = s.w0 ∧ x.w1 = s.w1 ∧ x.w2 = s.w2 ∧ IntKind.i64.wrap (x.w1 + 1) = s.w3 ∧
 (↑x.i : Int) = (↑s.i : Int) ∧ AVal.int IntKind.i64 (1 : Int) = AVal.int IntKind.i64 (0 : Int) ∧ x.n = s.n ∧ IntKind.i64.wrap (x.j + 1) = s.j ∧ I3 l ab (0 : Int) s ∧ (l.length - s.i - 1) * 10000 + 1 + (s.n - s.j).toNat <
 (l.length - x.i - 1) * 10000 + 1 + (x.n - x.j).toNat ∧ True) ∧ (b = false → ∃ (b : Bool), (b = true → ∃ (s : LS), l = l ∧ ab = ab ∧ aL l ab (x.i + 1) = aL l ab (s.i + 1) ∧ oL (x.i + 1) = oL (s.i + 1) ∧ x.q0 = s.q0 ∧ x.q1
 = s.q1 ∧ x.q2 = s.q2 ∧ x.w0 = s.w0 ∧ x.w1 = s.w1 ∧ x.w2 = s.w2 ∧ IntKind.i64.wrap (x.w1 + 1) = s.w3 ∧ (↑x.i : Int) = (↑s.i : Int) ∧ AVal.int IntKind.i64 (1 : Int) = AVal.int IntKind.i64 (1 : Int) ∧ x.n = s.n ∧
 IntKind.i64.wrap (x.j + 1) = s.j ∧ I3 l ab (1 : Int) s ∧ (l.length - s.i - 1) * 10000 + 1 + (s.n - s.j).toNat < (l.length - x.i - 1) * 10000 + 1 + (x.n - x.j).toNat ∧ True) ∧ (b = false → ∃ (s : LS), l = l ∧ ab = ab ∧ aL
 l ab (x.i + 1) = aL l ab (s.i + 1) ∧ oL (x.i + 1) = oL (s.i + 1) ∧ x.q0 = s.q0 ∧ x.q1 = s.q1 ∧ x.q2 = s.q2 ∧ x.w0 = s.w0 ∧ x.w1 = s.w1 ∧ x.w2 = s.w2 ∧ IntKind.i64.wrap (x.w1 + 1) = s.w3 ∧ (↑x.i : Int) = (↑s.i : Int) ∧
 AVal.int IntKind.i64 (1 : Int) = AVal.int IntKind.i64 (2 : Int) ∧ x.n = s.n ∧ IntKind.i64.wrap (x.j + 1) = s.j ∧ I3 l ab (2 : Int) s ∧ (l.length - s.i - 1) * 10000 + 1 + (s.n - s.j).toNat < (l.length - x.i - 1) * 10000 +
 1 + (x.n - x.j).toNat ∧ True))) ∧ ((at0 x.q1 x.j == 3) = false → ((at0 x.q1 x.j == 2) = true → ∃ (b : Bool), (b = true → ∃ (s : LS), l = l ∧ ab = ab ∧ aL l ab (x.i + 1) = aL l ab (s.i + 1) ∧ oL (x.i + 1) = oL (s.i + 1) ∧
 x.q0 = s.q0 ∧ x.q1 = s.q1 ∧ x.q2 = s.q2 ∧ x.w0 = s.w0 ∧ x.w1 = s.w1 ∧ IntKind.i64.wrap (x.w1 + 1) = s.w2 ∧ x.w3 = s.w3 ∧ (↑x.i : Int) = (↑s.i : Int) ∧ AVal.int IntKind.i64 (1 : Int) = AVal.int IntKind.i64 (0 : Int) ∧ x.n
 = s.n ∧ IntKind.i64.wrap (x.j + 1) = s.j ∧ I3 l ab (0 : Int) s ∧ (l.length - s.i - 1) * 10000 + 1 + (s.n - s.j).toNat < (l.length - x.i - 1) * 10000 + 1 + (x.n - x.j).toNat ∧ True) ∧ (b = false → ∃ (b : Bool), (b = true
 → ∃ (s : LS), l = l ∧ ab = ab ∧ aL l ab (x.i + 1) = aL l ab (s.i + 1) ∧ oL (x.i + 1) = oL (s.i + 1) ∧ x.q0 = s.q0 ∧ x.q1 = s.q1 ∧ x.q2 = s.q2 ∧ x.w0 = s.w0 ∧ x.w1 = s.w1 ∧ IntKind.i64.wrap (x.w1 + 1) = s.w2 ∧ x.w3 = s.w3
 ∧ (↑x.i : Int) = (↑s.i : Int) ∧ AVal.int IntKind.i64 (1 : Int) = AVal.int IntKind.i64 (1 : Int) ∧ x.n = s.n ∧ IntKind.i64.wrap (x.j + 1) = s.j ∧ I3 l ab (1 : Int) s ∧ (l.length - s.i - 1) * 10000 + 1 + (s.n - s.j).toNat
 < (l.length - x.i - 1) * 10000 + 1 + (x.n - x.j).toNat ∧ True) ∧ (b = false → ∃ (s : LS), l = l ∧ ab = ab ∧ aL l ab (x.i + 1) = aL l ab (s.i + 1) ∧ oL (x.i + 1) = oL (s.i + 1) ∧ x.q0 = s.q0 ∧ x.q1 = s.q1 ∧ x.q2 = s.q2 ∧
 x.w0 = s.w0 ∧ x.w1 = s.w1 ∧ IntKind.i64.wrap (x.w1 + 1) = s.w2 ∧ x.w3 = s.w3 ∧ (↑x.i : Int) = (↑s.i : Int) ∧ AVal.int IntKind.i64 (1 : Int) = AVal.int IntKind.i64 (2 : Int) ∧ x.n = s.n ∧ IntKind.i64.wrap (x.j + 1) = s.j
 ∧ I3 l ab (2 : Int) s ∧ (l.length - s.i - 1) * 10000 + 1 + (s.n - s.j).toNat < (l.length - x.i - 1) * 10000 + 1 + (x.n - x.j).toNat ∧ True))) ∧ ((at0 x.q1 x.j == 2) = false → ((at0 x.q1 x.j == 1) = true → ∃ (b : Bool),
 (b = true → ∃ (s : LS), l = l ∧ ab = ab ∧ aL l ab (x.i + 1) = aL l ab (s.i + 1) ∧ oL (x.i + 1) = oL (s.i + 1) ∧ x.q0 = s.q0 ∧ x.q1 = s.q1 ∧ x.q2 = s.q2 ∧ x.w0 = s.w0 ∧ IntKind.i64.wrap (x.w1 + 1) = s.w1 ∧ x.w2 = s.w2 ∧
 x.w3 = s.w3 ∧ (↑x.i : Int) = (↑s.i : Int) ∧ AVal.int IntKind.i64 (1 : Int) = AVal.int IntKind.i64 (0 : Int) ∧ x.n = s.n ∧ IntKind.i64.wrap (x.j + 1) = s.j ∧ I3 l ab (0 : Int) s ∧ (l.length - s.i - 1) * 10000 + 1 + (s.n -
 s.j).toNat < (l.length - x.i - 1) * 10000 + 1 + (x.n - x.j).toNat ∧ True) ∧ (b = false → ∃ (b : Bool), (b = true → ∃ (s : LS), l = l ∧ ab = ab ∧ aL l ab (x.i + 1) = aL l ab (s.i + 1) ∧ oL (x.i + 1) = oL (s.i + 1) ∧ x.q0
 = s.q0 ∧ x.q1 = s.q1 ∧ x.q2 = s.q2 ∧ x.w0 = s.w0 ∧ IntKind.i64.wrap (x.w1 + 1) = s.w1 ∧ x.w2 = s.w2 ∧ x.w3 = s.w3 ∧ (↑x.i : Int) = (↑s.i : Int) ∧ AVal.int IntKind.i64 (1 : Int) = AVal.int IntKind.i64 (1 : Int) ∧ x.n =
 s.n ∧ IntKind.i64.wrap (x.j + 1) = s.j ∧ I3 l ab (1 : Int) s ∧ (l.length - s.i - 1) * 10000 + 1 + (s.n - s.j).toNat < (l.length - x.i - 1) * 10000 + 1 + (x.n - x.j).toNat ∧ True) ∧ (b = false → ∃ (s : LS), l = l ∧ ab =
 ab ∧ aL l ab (x.i + 1) = aL l ab (s.i + 1) ∧ oL (x.i + 1) = oL (s.i + 1) ∧ x.q0 = s.q0 ∧ x.q1 = s.q1 ∧ x.q2 = s.q2 ∧ x.w0 = s.w0 ∧ IntKind.i64.wrap (x.w1 + 1) = s.w1 ∧ x.w2 = s.w2 ∧ x.w3 = s.w3 ∧ (↑x.i : Int) = (↑s.i :
 Int) ∧ AVal.int IntKind.i64 (1 : Int) = AVal.int IntKind.i64 (2 : Int) ∧ x.n = s.n ∧ IntKind.i64.wrap (x.j + 1) = s.j ∧ I3 l ab (2 : Int) s ∧ (l.length - s.i - 1) * 10000 + 1 + (s.n - s.j).toNat < (l.length - x.i - 1) *
 10000 + 1 + (x.n - x.j).toNat ∧ True))) ∧ ((at0 x.q1 x.j == 1) = false → ∃ (b : Bool), (b = true → ∃ (s : LS), l = l ∧ ab = ab ∧ aL l ab (x.i + 1) = aL l ab (s.i + 1) ∧ oL (x.i + 1) = oL (s.i + 1) ∧ x.q0 = s.q0 ∧ x.q1 =
 s.q1 ∧ x.q2 = s.q2 ∧ IntKind.i64.wrap (x.w1 + 1) = s.w0 ∧ x.w1 = s.w1 ∧ x.w2 = s.w2 ∧ x.w3 = s.w3 ∧ (↑x.i : Int) = (↑s.i : Int) ∧ AVal.int IntKind.i64 (1 : Int) = AVal.int IntKind.i64 (0 : Int) ∧ x.n = s.n ∧
 IntKind.i64.wrap (x.j + 1) = s.j ∧ I3 l ab (0 : Int) s ∧ (l.length - s.i - 1) * 10000 + 1 + (s.n - s.j).toNat < (l.length - x.i - 1) * 10000 + 1 + (x.n - x.j).toNat ∧ True) ∧ (b = false → ∃ (b : Bool), (b = true → ∃ (s :
 LS), l = l ∧ ab = ab ∧ aL l ab (x.i + 1) = aL l ab (s.i + 1) ∧ oL (x.i + 1) = oL (s.i + 1) ∧ x.q0 = s.q0 ∧ x.q1 = s.q1 ∧ x.q2 = s.q2 ∧ IntKind.i64.wrap (x.w1 + 1) = s.w0 ∧ x.w1 = s.w1 ∧ x.w2 = s.w2 ∧ x.w3 = s.w3 ∧ (↑x.i
 : Int) = (↑s.i : Int) ∧ AVal.int IntKind.i64 (1 : Int) = AVal.int IntKind.i64 (1 : Int) ∧ x.n = s.n ∧ IntKind.i64.wrap (x.j + 1) = s.j ∧ I3 l ab (1 : Int) s ∧ (l.length - s.i - 1) * 10000 + 1 + (s.n - s.j).toNat <
 (l.length - x.i - 1) * 10000 + 1 + (x.n - x.j).toNat ∧ True) ∧ (b = false → ∃ (s : LS), l = l ∧ ab = ab ∧ aL l ab (x.i + 1) = aL l ab (s.i + 1) ∧ oL (x.i + 1) = oL (s.i + 1) ∧ x.q0 = s.q0 ∧ x.q1 = s.q1 ∧ x.q2 = s.q2 ∧
 IntKind.i64.wrap (x.w1 + 1) = s.w0 ∧ x.w1 = s.w1 ∧ x.w2 = s.w2 ∧ x.w3 = s.w3 ∧ (↑x.i : Int) = (↑s.i : Int) ∧ AVal.int IntKind.i64 (1 : Int) = AVal.int IntKind.i64 (2 : Int) ∧ x.n = s.n ∧ IntKind.i64.wrap (x.j + 1) = s.j
 ∧ I3 l ab (2 : Int) s ∧ (l.length - s.i - 1) * 10000 + 1 + (s.n - s.j).toNat < (l.length - x.i - 1) * 10000 + 1 + (x.n - x.j).toNat ∧ True)))))) ∧ ((at0 x.q1 x.j == 1) = false → ((0 : Int) ≤ at0 x.q1 x.j ∧ at0 x.q1 x.j <
 4) ∧ ((at0 x.q1 x.j == 3) = true → ∃ (b : Bool), (b = true → ∃ (s : LS), l = l ∧ ab = ab ∧ aL l ab (x.i + 1) = aL l ab (s.i + 1) ∧ oL (x.i + 1) = oL (s.i + 1) ∧ x.q0 = s.q0 ∧ x.q1 = s.q1 ∧ x.q2 = s.q2 ∧ x.w0 = s.w0 ∧
 x.w1 = s.w1 ∧ x.w2 = s.w2 ∧ IntKind.i64.wrap (x.w0 + 1) = s.w3 ∧ (↑x.i : Int) = (↑s.i : Int) ∧ AVal.int IntKind.i64 (1 : Int) = AVal.int IntKind.i64 (0 : Int) ∧ x.n = s.n ∧ IntKind.i64.wrap (x.j + 1) = s.j ∧ I3 l ab (0 :
 Int) s ∧ (l.length - s.i - 1) * 10000 + 1 + (s.n - s.j).toNat < (l.length - x.i - 1) * 10000 + 1 + (x.n - x.j).toNat ∧ True) ∧ (b = false → ∃ (b : Bool), (b = true → ∃ (s : LS), l = l ∧ ab = ab ∧ aL l ab (x.i + 1) = aL l
 ab (s.i + 1) ∧ oL (x.i + 1) = oL (s.i + 1) ∧ x.q0 = s.q0 ∧ x.q1 = s.q1 ∧ x.q2 = s.q2 ∧ x.w0 = s.w0 ∧ x.w1 = s.w1 ∧ x.w2 = s.w2 ∧ IntKind.i64.wrap (x.w0 + 1) = s.w3 ∧ (↑x.i : Int) = (↑s.i : Int) ∧ AVal.int IntKind.i64 (1
 : Int) = AVal.int IntKind.i64 (1 : Int) ∧ x.n = s.n ∧ IntKind.i64.wrap (x.j + 1) = s.j ∧ I3 l ab (1 : Int) s ∧ (l.length - s.i - 1) * 10000 + 1 + (s.n - s.j).toNat < (l.length - x.i - 1) * 10000 + 1 + (x.n - x.j).toNat ∧
 True) ∧ (b = false → ∃ (s : LS), l = l ∧ ab = ab ∧ aL l ab (x.i + 1) = aL l ab (s.i + 1) ∧ oL (x.i + 1) = oL (s.i + 1) ∧ x.q0 = s.q0 ∧ x.q1 = s.q1 ∧ x.q2 = s.q2 ∧ x.w0 = s.w0 ∧ x.w1 = s.w1 ∧ x.w2 = s.w2 ∧
 IntKind.i64.wrap (x.w0 + 1) = s.w3 ∧ (↑x.i : Int) = (↑s.i : Int) ∧ AVal.int IntKind.i64 (1 : Int) = AVal.int IntKind.i64 (2 : Int) ∧ x.n = s.n ∧ IntKind.i64.wrap (x.j + 1) = s.j ∧ I3 l ab (2 : Int) s ∧ (l.length - s.i -
 1) * 10000 + 1 + (s.n - s.j).toNat < (l.length - x.i - 1) * 10000 + 1 + (x.n - x.j).toNat ∧ True))) ∧ ((at0 x.q1 x.j == 3) = false → ((at0 x.q1 x.j == 2) = true → ∃ (b : Bool), (b = true → ∃ (s : LS), l = l ∧ ab = ab ∧
 aL l ab (x.i + 1) = aL l ab (s.i + 1) ∧ oL (x.i + 1) = oL (s.i + 1) ∧ x.q0 = s.q0 ∧ x.q1 = s.q1 ∧ x.q2 = s.q2 ∧ x.w0 = s.w0 ∧ x.w1 = s.w1 ∧ IntKind.i64.wrap (x.w0 + 1) = s.w2 ∧ x.w3 = s.w3 ∧ (↑x.i : Int) = (↑s.i : Int) ∧
 AVal.int IntKind.i64 (1 : Int) = AVal.int IntKind.i64 (0 : Int) ∧ x.n = s.n ∧ IntKind.i64.wrap (x.j + 1) = s.j ∧ I3 l ab (0 : Int) s ∧ (l.length - s.i - 1) * 10000 + 1 + (s.n - s.j).toNat < (l.length - x.i - 1) * 10000 +
 1 + (x.n - x.j).toNat ∧ True) ∧ (b = false → ∃ (b : Bool), (b = true → ∃ (s : LS), l = l ∧ ab = ab ∧ aL l ab (x.i + 1) = aL l ab (s.i + 1) ∧ oL (x.i + 1) = oL (s.i + 1) ∧ x.q0 = s.q0 ∧ x.q1 = s.q1 ∧ x.q2 = s.q2 ∧ x.w0 =
 s.w0 ∧ x.w1 = s.w1 ∧ IntKind.i64.wrap (x.w0 + 1) = s.w2 ∧ x.w3 = s.w3 ∧ (↑x.i : Int) = (↑s.i : Int) ∧ AVal.int IntKind.i64 (1 : Int) = AVal.int IntKind.i64 (1 : Int) ∧ x.n = s.n ∧ IntKind.i64.wrap (x.j + 1) = s.j ∧ I3 l
 ab (1 : Int) s ∧ (l.length - s.i - 1) * 10000 + 1 + (s.n - s.j).toNat < (l.length - x.i - 1) * 10000 + 1 + (x.n - x.j).toNat ∧ True) ∧ (b = false → ∃ (s : LS), l = l ∧ ab = ab ∧ aL l ab (x.i + 1) = aL l ab (s.i + 1) ∧ oL
 (x.i + 1) = oL (s.i + 1) ∧ x.q0 = s.q0 ∧ x.q1 = s.q1 ∧ x.q2 = s.q2 ∧ x.w0 = s.w0 ∧ x.w1 = s.w1 ∧ IntKind.i64.wrap (x.w0 + 1) = s.w2 ∧ x.w3 = s.w3 ∧ (↑x.i : Int) = (↑s.i : Int) ∧ AVal.int IntKind.i64 (1 : Int) = AVal.int
 IntKind.i64 (2 : Int) ∧ x.n = s.n ∧ IntKind.i64.wrap (x.j + 1) = s.j ∧ I3 l ab (2 : Int) s ∧ (l.length - s.i - 1) * 10000 + 1 + (s.n - s.j).toNat < (l.length - x.i - 1) * 10000 + 1 + (x.n - x.j).toNat ∧ True))) ∧ ((at0
 x.q1 x.j == 2) = false → ((at0 x.q1 x.j == 1) = true → ∃ (b : Bool), (b = true → ∃ (s : LS), l = l ∧ ab = ab ∧ aL l ab (x.i + 1) = aL l ab (s.i + 1) ∧ oL (x.i + 1) = oL (s.i + 1) ∧ x.q0 = s.q0 ∧ x.q1 = s.q1 ∧ x.q2 = s.q2
 ∧ x.w0 = s.w0 ∧ IntKind.i64.wrap (x.w0 + 1) = s.w1 ∧ x.w2 = s.w2 ∧ x.w3 = s.w3 ∧ (↑x.i : Int) = (↑s.i : Int) ∧ AVal.int IntKind.i64 (1 : Int) = AVal.int IntKind.i64 (0 : Int) ∧ x.n = s.n ∧ IntKind.i64.wrap (x.j + 1) =
 s.j ∧ I3 l ab (0 : Int) s ∧ (l.length - s.i - 1) * 10000 + 1 + (s.n - s.j).toNat < (l.length - x.i - 1) * 10000 + 1 + (x.n - x.j).toNat ∧ True) ∧ (b = false → ∃ (b : Bool), (b = true → ∃ (s : LS), l = l ∧ ab = ab ∧ aL l
 ab (x.i + 1) = aL l ab (s.i + 1) ∧ oL (x.i + 1) = oL (s.i + 1) ∧ x.q0 = s.q0 ∧ x.q1 = s.q1 ∧ x.q2 = s.q2 ∧ x.w0 = s.w0 ∧ IntKind.i64.wrap (x.w0 + 1) = s.w1 ∧ x.w2 = s.w2 ∧ x.w3 = s.w3 ∧ (↑x.i : Int) = (↑s.i : Int) ∧
 AVal.int IntKind.i64 (1 : Int) = AVal.int IntKind.i64 (1 : Int) ∧ x.n = s.n ∧ IntKind.i64.wrap (x.j + 1) = s.j ∧ I3 l ab (1 : Int) s ∧ (l.length - s.i - 1) * 10000 + 1 + (s.n - s.j).toNat < (l.length - x.i - 1) * 10000 +
 1 + (x.n - x.j).toNat ∧ True) ∧ (b = false → ∃ (s : LS), l = l ∧ ab = ab ∧ aL l ab (x.i + 1) = aL l ab (s.i + 1) ∧ oL (x.i + 1) = oL (s.i + 1) ∧ x.q0 = s.q0 ∧ x.q1 = s.q1 ∧ x.q2 = s.q2 ∧ x.w0 = s.w0 ∧ IntKind.i64.wrap
 (x.w0 + 1) = s.w1 ∧ x.w2 = s.w2 ∧ x.w3 = s.w3 ∧ (↑x.i : Int) = (↑s.i : Int) ∧ AVal.int IntKind.i64 (1 : Int) = AVal.int IntKind.i64 (2 : Int) ∧ x.n = s.n ∧ IntKind.i64.wrap (x.j + 1) = s.j ∧ I3 l ab (2 : Int) s ∧
 (l.length - s.i - 1) * 10000 + 1 + (s.n - s.j).toNat < (l.length - x.i - 1) * 10000 + 1 + (x.n - x.j).toNat ∧ True))) ∧ ((at0 x.q1 x.j == 1) = false → ∃ (b : Bool), (b = true → ∃ (s : LS), l = l ∧ ab = ab ∧ aL l ab (x.i
 + 1) = aL l ab (s.i + 1) ∧ oL (x.i + 1) = oL (s.i + 1) ∧ x.q0 = s.q0 ∧ x.q1 = s.q1 ∧ x.q2 = s.q2 ∧ IntKind.i64.wrap (x.w0 + 1) = s.w0 ∧ x.w1 = s.w1 ∧ x.w2 = s.w2 ∧ x.w3 = s.w3 ∧ (↑x.i : Int) = (↑s.i : Int) ∧ AVal.int
 IntKind.i64 (1 : Int) = AVal.int IntKind.i64 (0 : Int) ∧ x.n = s.n ∧ IntKind.i64.wrap (x.j + 1) = s.j ∧ I3 l ab (0 : Int) s ∧ (l.length - s.i - 1) * 10000 + 1 + (s.n - s.j).toNat < (l.length - x.i - 1) * 10000 + 1 + (x.n
 - x.j).toNat ∧ True) ∧ (b = false → ∃ (b : Bool), (b = true → ∃ (s : LS), l = l ∧ ab = ab ∧ aL l ab (x.i + 1) = aL l ab (s.i + 1) ∧ oL (x.i + 1) = oL (s.i + 1) ∧ x.q0 = s.q0 ∧ x.q1 = s.q1 ∧ x.q2 = s.q2 ∧ IntKind.i64.wrap
 (x.w0 + 1) = s.w0 ∧ x.w1 = s.w1 ∧ x.w2 = s.w2 ∧ x.w3 = s.w3 ∧ (↑x.i : Int) = (↑s.i : Int) ∧ AVal.int IntKind.i64 (1 : Int) = AVal.int IntKind.i64 (1 : Int) ∧ x.n = s.n ∧ IntKind.i64.wrap (x.j + 1) = s.j ∧ I3 l ab (1 :
 Int) s ∧ (l.length - s.i - 1) * 10000 + 1 + (s.n - s.j).toNat < (l.length - x.i - 1) * 10000 + 1 + (x.n - x.j).toNat ∧ True) ∧ (b = false → ∃ (s : LS), l = l ∧ ab = ab ∧ aL l ab (x.i + 1) = aL l ab (s.i + 1) ∧ oL (x.i +
 1) = oL (s.i + 1) ∧ x.q0 = s.q0 ∧ x.q1 = s.q1 ∧ x.q2 = s.q2 ∧ IntKind.i64.wrap (x.w0 + 1) = s.w0 ∧ x.w1 = s.w1 ∧ x.w2 = s.w2 ∧ x.w3 = s.w3 ∧ (↑x.i : Int) = (↑s.i : Int) ∧ AVal.int IntKind.i64 (1 : Int) = AVal.int
 IntKind.i64 (2 : Int) ∧ x.n = s.n ∧ IntKind.i64.wrap (x.j + 1) = s.j ∧ I3 l ab (2 : Int) s ∧ (l.length - s.i - 1) * 10000 + 1 + (s.n - s.j).toNat < (l.length - x.i - 1) * 10000 + 1 + (x.n - x.j).toNat ∧ True))))))))) ∧
 (decide (x.j < x.n) = false → ((0 : Int) ≤ x.n ∧ x.n ≤ (↑x.q1.length : Int) ∧ (↑x.q1.length : Int) ≤ (↑x.q1.length : Int)) ∧ ∃ (s : LS), l = l ∧ ab = ab ∧ aL l ab (x.i + 1) = aL l ab s.i ∧ oL (x.i + 1) = oL s.i ∧ x.q0 =
 s.q0 ∧ List.take ((↑x.q1.length : Int).toNat - x.n.toNat) (List.drop x.n.toNat x.q1) = s.q1 ∧ x.q2 = s.q2 ∧ x.w0 = s.w0 ∧ x.w1 = s.w1 ∧ x.w2 = s.w2 ∧ x.w3 = s.w3 ∧ IntKind.i64.wrap ((↑x.i : Int) + 1) = (↑s.i : Int) ∧ I1
 l ab s ∧ (l.length - s.i) * 10000 < (l.length - x.i - 1) * 10000 + 1 + (x.n - x.j).toNat ∧ True)) := by kernel_rfl
theorem lw_132 (l : List Cl) (ab : List Bool) (x : LS) : Go.Sy.Tree.holds (cutVC F (lookC qL) 300 Try.f4 bL (lwF l ab) 13 (c2 l ab 2) x) = ( (decide ((↑x.i : Int) < (↑ab.length : Int)) = true → ((0 : Int) ≤ (↑x.i : Int) ∧
 (↑x.i : Int) < (↑ab.length : Int)) ∧ (at1 ab (↑x.i : Int) = true → ((aL l ab x.i).length + [Att.mk (thL l x.i) (IntKind.i64.wrap ((↑x.i : Int) + 1)) false (0 : Int) (0 : Int) (7 : Int) (0 : Int) (0 : Int) [] [] [] [Wo.mk
 (2 : Int) (kd (at2 l (↑x.i : Int)).ki)]].length) * 160 ≤ 140737488355328 ∧ ((oL x.i).length + [(↑x.i : Int)].length) * 8 ≤ 140737488355328 ∧ ∃ (s : LS), l = l ∧ ab = ab ∧ aL l ab x.i ++ [Att.mk (thL l x.i)
 (IntKind.i64.wrap ((↑x.i : Int) + 1)) false (0 : Int) (0 : Int) (7 : Int) (0 : Int) (0 : Int) [] [] [] [Wo.mk (2 : Int) (kd (at2 l (↑x.i : Int)).ki)]] = aL l ab s.i ∧ oL x.i ++ [(↑x.i : Int)] = oL s.i ∧ x.q0 = s.q0 ∧
 x.q1 = s.q1 ∧ x.q2 = s.q2 ∧ x.w0 = s.w0 ∧ x.w1 = s.w1 ∧ x.w2 = s.w2 ∧ x.w3 = s.w3 ∧ IntKind.i64.wrap ((↑x.i : Int) + 1) = (↑s.i : Int) ∧ I1 l ab s ∧ (l.length - s.i) * 10000 < (l.length - x.i - 1) * 10000 + 9000 ∧ True)
 ∧ (at1 ab (↑x.i : Int) = false → ((aL l ab x.i).length + [Att.mk (thL l x.i) (IntKind.i64.wrap ((↑x.i : Int) + 1)) false (0 : Int) (0 : Int) (6 : Int) (0 : Int) (0 : Int) [] [] [] [Wo.mk (2 : Int) (kd (at2 l (↑x.i :
 Int)).ki)]].length) * 160 ≤ 140737488355328 ∧ ((oL x.i).length + [(↑x.i : Int)].length) * 8 ≤ 140737488355328 ∧ (false = true → ∃ (s : LS), l = l ∧ ab = ab ∧ aL l ab x.i ++ [Att.mk (thL l x.i) (IntKind.i64.wrap ((↑x.i :
 Int) + 1)) false (0 : Int) (0 : Int) (6 : Int) (0 : Int) (0 : Int) [] [] [] [Wo.mk (2 : Int) (kd (at2 l (↑x.i : Int)).ki)]] = aL l ab s.i ∧ oL x.i ++ [(↑x.i : Int)] = oL s.i ∧ x.q0 = s.q0 ∧ x.q1 = s.q1 ∧ x.q2 = s.q2 ∧
 x.w0 = s.w0 ∧ x.w1 = s.w1 ∧ x.w2 = s.w2 ∧ x.w3 = s.w3 ∧ IntKind.i64.wrap ((↑x.i : Int) + 1) = (↑s.i : Int) ∧ I1 l ab s ∧ (l.length - s.i) * 10000 < (l.length - x.i - 1) * 10000 + 9000 ∧ True) ∧ (false = false → ((kd (at2
 l (↑x.i : Int)).ki == 10) = true → (x.q2.length + [thL l x.i].length) * 8 ≤ 140737488355328 ∧ ∃ (b : Bool), (b = true → ∃ (s : LS), l = l ∧ ab = ab ∧ aL l ab x.i ++ [Att.mk (thL l x.i) (IntKind.i64.wrap ((↑x.i : Int) +
 1)) false (0 : Int) (0 : Int) (6 : Int) (0 : Int) (0 : Int) [] [] [] [Wo.mk (2 : Int) (kd (at2 l (↑x.i : Int)).ki)]] = aL l ab (s.i + 1) ∧ oL x.i ++ [(↑x.i : Int)] = oL (s.i + 1) ∧ x.q0 = s.q0 ∧ x.q1 = s.q1 ∧ x.q2 ++
 [thL l x.i] = s.q2 ∧ x.w0 = s.w0 ∧ x.w1 = s.w1 ∧ x.w2 = s.w2 ∧ x.w3 = s.w3 ∧ (↑x.i : Int) = (↑s.i : Int) ∧ AVal.int IntKind.i64 (2 : Int) = AVal.int IntKind.i64 (0 : Int) ∧ (0 : Int) = s.n ∧ (0 : Int) = s.j ∧ I3 l ab (0
 : Int) s ∧ (l.length - s.i - 1) * 10000 + 1 + (s.n - s.j).toNat < (l.length - x.i - 1) * 10000 + 9000 ∧ True) ∧ (b = false → ∃ (b : Bool), (b = true → ∃ (s : LS), l = l ∧ ab = ab ∧ aL l ab x.i ++ [Att.mk (thL l x.i)
 (IntKind.i64.wrap ((↑x.i : Int) + 1)) false (0 : Int) (0 : Int) (6 : Int) (0 : Int) (0 : Int) [] [] [] [Wo.mk (2 : Int) (kd (at2 l (↑x.i : Int)).ki)]] = aL l ab (s.i + 1) ∧ oL x.i ++ [(↑x.i : Int)] = oL (s.i + 1) ∧ x.q0
 = s.q0 ∧ x.q1 = s.q1 ∧ x.q2 ++ [thL l x.i] = s.q2 ∧ x.w0 = s.w0 ∧ x.w1 = s.w1 ∧ x.w2 = s.w2 ∧ x.w3 = s.w3 ∧ (↑x.i : Int) = (↑s.i : Int) ∧ AVal.int IntKind.i64 (2 : Int) = AVal.int IntKind.i64 (1 : Int) ∧ (0 : Int) = s.n
 ∧ (0 : Int) = s.j ∧ I3 l ab (1 : Int) s ∧ (l.length - s.i - 1) * 10000 + 1 + (s.n - s.j).toNat < (l.length - x.i - 1) * 10000 + 9000 ∧ True) ∧ (b = false → ∃ (s : LS), l = l ∧ ab = ab ∧ aL l ab x.i ++ [Att.mk (thL l x.i)
 (IntKind.i64.wrap ((↑x.i : Int) + 1)) false (0 : Int) (0 : Int) (6 : Int) (0 : Int) (0 : Int) [] [] [] [Wo.mk (2 : Int) (kd (at2 l (↑x.i : Int)).ki)]] = aL l ab (s.i + 1) ∧ oL x.i ++ [(↑x.i : Int)] = oL (s.i + 1) ∧ x.q0
 = s.q0 ∧ x.q1 = s.q1 ∧ x.q2 ++ [thL l x.i] = s.q2 ∧ x.w0 = s.w0 ∧ x.w1 = s.w1 ∧ x.w2 = s.w2 ∧ x.w3 = s.w3 ∧ (↑x.i : Int) = (↑s.i : Int) ∧ AVal.int IntKind.i64 (2 : Int) = AVal.int IntKind.i64 (2 : Int) ∧ (0 : Int) = s.n
 ∧ (0 : Int) = s.j ∧ I3 l ab (2 : Int) s ∧ (l.length - s.i - 1) * 10000 + 1 + (s.n - s.j).toNat < (l.length - x.i - 1) * 10000 + 9000 ∧ True))) ∧ ((kd (at2 l (↑x.i : Int)).ki == 10) = false → ((kd (at2 l (↑x.i : Int)).ki
 == 13) = true → ∃ (b : Bool), (b = true → ∃ (s : LS), l = l ∧ ab = ab ∧ aL l ab x.i ++ [Att.mk (thL l x.i) (IntKind.i64.wrap ((↑x.i : Int) + 1)) false (0 : Int) (0 : Int) (6 : Int) (0 : Int) (0 : Int) [] [] [] [Wo.mk (2
 : Int) (kd (at2 l (↑x.i : Int)).ki)]] = aL l ab (s.i + 1) ∧ oL x.i ++ [(↑x.i : Int)] = oL (s.i + 1) ∧ x.q0 = s.q0 ∧ x.q1 = s.q1 ∧ x.q2 = s.q2 ∧ x.w0 = s.w0 ∧ x.w1 = s.w1 ∧ x.w2 = s.w2 ∧ x.w3 = s.w3 ∧ (↑x.i : Int) = (↑s.i
 : Int) ∧ AVal.int IntKind.i64 (2 : Int) = AVal.int IntKind.i64 (0 : Int) ∧ (bif false then if (1 : Int) < (↑x.q2.length : Int) then (↑x.q2.length : Int) else (1 : Int) else if (↑x.q2.length : Int) < 1 then (↑x.q2.length
 : Int) else (1 : Int)) = s.n ∧ (0 : Int) = s.j ∧ I3 l ab (0 : Int) s ∧ (l.length - s.i - 1) * 10000 + 1 + (s.n - s.j).toNat < (l.length - x.i - 1) * 10000 + 9000 ∧ True) ∧ (b = false → ∃ (b : Bool), (b = true → ∃ (s :
 LS), l = l ∧ ab = ab ∧ aL l ab x.i ++ [Att.mk (thL l x.i) (IntKind.i64.wrap ((↑x.i : Int) + 1)) false (0 : Int) (0 : Int) (6 : Int) (0 : Int) (0 : Int) [] [] [] [Wo.mk (2 : Int) (kd (at2 l (↑x.i : Int)).ki)]] = aL l ab
 (s.i + 1) ∧ oL x.i ++ [(↑x.i : Int)] = oL (s.i + 1) ∧ x.q0 = s.q0 ∧ x.q1 = s.q1 ∧ x.q2 = s.q2 ∧ x.w0 = s.w0 ∧ x.w1 = s.w1 ∧ x.w2 = s.w2 ∧ x.w3 = s.w3 ∧ (↑x.i : Int) = (↑s.i : Int) ∧ AVal.int IntKind.i64 (2 : Int) =
 AVal.int IntKind.i64 (1 : Int) ∧ (bif false then if (1 : Int) < (↑x.q2.length : Int) then (↑x.q2.length : Int) else (1 : Int) else if (↑x.q2.length : Int) < 1 then (↑x.q2.length : Int) else (1 : Int)) = s.n ∧ (0 : Int) =
 s.j ∧ I3 l ab (1 : Int) s ∧ (l.length - s.i - 1) * 10000 + 1 + (s.n - s.j).toNat < (l.length - x.i - 1) * 10000 + 9000 ∧ True) ∧ (b = false → ∃ (s : LS), l = l ∧ ab = ab ∧ aL l ab x.i ++ [Att.mk (thL l x.i)
 (IntKind.i64.wrap ((↑x.i : Int) + 1)) false (0 : Int) (0 : Int) (6 : Int) (0 : Int) (0 : Int) [] [] [] [Wo.mk (2 : Int) (kd (at2 l (↑x.i : Int)).ki)]] = aL l ab (s.i + 1) ∧ oL x.i ++ [(↑x.i : Int)] = oL (s.i + 1) ∧ x.q0
 = s.q0 ∧ x.q1 = s.q1 ∧ x.q2 = s.q2 ∧ x.w0 = s.w0 ∧ x.w1 = s.w1 ∧ x.w2 = s.w2 ∧ x.w3 = s.w3 ∧ (↑x.i : Int) = (↑s.i : Int) ∧ AVal.int IntKind.i64 (2 : Int) = AVal.int IntKind.i64 (2 : Int) ∧ (bif false then if (1 : Int) <
 (↑x.q2.length : Int) then (↑x.q2.length : Int) else (1 : Int) else if (↑x.q2.length : Int) < 1 then (↑x.q2.length : Int) else (1 : Int)) = s.n ∧ (0 : Int) = s.j ∧ I3 l ab (2 : Int) s ∧ (l.length - s.i - 1) * 10000 + 1 +
 (s.n - s.j).toNat < (l.length - x.i - 1) * 10000 + 9000 ∧ True))) ∧ ((kd (at2 l (↑x.i : Int)).ki == 13) = false → ∃ (b : Bool), (b = true → ∃ (s : LS), l = l ∧ ab = ab ∧ aL l ab x.i ++ [Att.mk (thL l x.i)
 (IntKind.i64.wrap ((↑x.i : Int) + 1)) false (0 : Int) (0 : Int) (6 : Int) (0 : Int) (0 : Int) [] [] [] [Wo.mk (2 : Int) (kd (at2 l (↑x.i : Int)).ki)]] = aL l ab (s.i + 1) ∧ oL x.i ++ [(↑x.i : Int)] = oL (s.i + 1) ∧ x.q0
 = s.q0 ∧ x.q1 = s.q1 ∧ x.q2 = s.q2 ∧ x.w0 = s.w0 ∧ x.w1 = s.w1 ∧ x.w2 = s.w2 ∧ x.w3 = s.w3 ∧ (↑x.i : Int) = (↑s.i : Int) ∧ AVal.int IntKind.i64 (2 : Int) = AVal.int IntKind.i64 (0 : Int) ∧ (↑x.q2.length : Int) = s.n ∧ (0
 : Int) = s.j ∧ I3 l ab (0 : Int) s ∧ (l.length - s.i - 1) * 10000 + 1 + (s.n - s.j).toNat < (l.length - x.i - 1) * 10000 + 9000 ∧ True) ∧ (b = false → ∃ (b : Bool), (b = true → ∃ (s : LS), l = l ∧ ab = ab ∧ aL l ab x.i
 ++ [Att.mk (thL l x.i) (IntKind.i64.wrap ((↑x.i : Int) + 1)) false (0 : Int) (0 : Int) (6 : Int) (0 : Int) (0 : Int) [] [] [] [Wo.mk (2 : Int) (kd (at2 l (↑x.i : Int)).ki)]] = aL l ab (s.i + 1) ∧ oL x.i ++ [(↑x.i : Int)]
 = oL (s.i + 1) ∧ x.q0 = s.q0 ∧ x.q1 = s.q1 ∧ x.q2 = s.q2 ∧ x.w0 = s.w0 ∧ x.w1 = s.w1 ∧ x.w2 = s.w2 ∧ x.w3 = s.w3 ∧ (↑x.i : Int) = (↑s.i : Int) ∧ AVal.int IntKind.i64 (2 : Int) = AVal.int IntKind.i64 (1 : Int) ∧
 (↑x.q2.length : Int) = s.n ∧ (0 : Int) = s.j ∧ I3 l ab (1 : Int) s ∧ (l.length - s.i - 1) * 10000 + 1 + (s.n - s.j).toNat < (l.length - x.i - 1) * 10000 + 9000 ∧ True) ∧ (b = false → ∃ (s : LS), l = l ∧ ab = ab ∧ aL l ab
 x.i ++ [Att.mk (thL l x.i) (IntKind.i64.wrap ((↑x.i : Int) + 1)) false (0 : Int) (0 : Int) (6 : Int) (0 : Int) (0 : Int) [] [] [] [Wo.mk (2 : Int) (kd (at2 l (↑x.i : Int)).ki)]] = aL l ab (s.i + 1) ∧ oL x.i ++ [(↑x.i :
 Int)] = oL (s.i + 1) ∧ x.q0 = s.q0 ∧ x.q1 = s.q1 ∧ x.q2 = s.q2 ∧ x.w0 = s.w0 ∧ x.w1 = s.w1 ∧ x.w2 = s.w2 ∧ x.w3 = s.w3 ∧ (↑x.i : Int) = (↑s.i : Int) ∧ AVal.int IntKind.i64 (2 : Int) = AVal.int IntKind.i64 (2 : Int) ∧
 (↑x.q2.length : Int) = s.n ∧ (0 : Int) = s.j ∧ I3 l ab (2 : Int) s ∧ (l.length - s.i - 1) * 10000 + 1 + (s.n - s.j).toNat < (l.length - x.i - 1) * 10000 + 9000 ∧ True))))))) ∧ (decide ((↑x.i : Int) < (↑ab.length : Int))
 = false → ((aL l ab x.i).length + [Att.mk (thL l x.i) (IntKind.i64.wrap ((↑x.i : Int) + 1)) false (0 : Int) (0 : Int) (6 : Int) (0 : Int) (0 : Int) [] [] [] [Wo.mk (2 : Int) (kd (at2 l (↑x.i : Int)).ki)]].length) * 160 ≤
 140737488355328 ∧ ((oL x.i).length + [(↑x.i : Int)].length) * 8 ≤ 140737488355328 ∧ (false = true → ∃ (s : LS), l = l ∧ ab = ab ∧ aL l ab x.i ++ [Att.mk (thL l x.i) (IntKind.i64.wrap ((↑x.i : Int) + 1)) false (0 : Int)
 (0 : Int) (6 : Int) (0 : Int) (0 : Int) [] [] [] [Wo.mk (2 : Int) (kd (at2 l (↑x.i : Int)).ki)]] = aL l ab s.i ∧ oL x.i ++ [(↑x.i : Int)] = oL s.i ∧ x.q0 = s.q0 ∧ x.q1 = s.q1 ∧ x.q2 = s.q2 ∧ x.w0 = s.w0 ∧ x.w1 = s.w1 ∧
 x.w2 = s.w2 ∧ x.w3 = s.w3 ∧ IntKind.i64.wrap ((↑x.i : Int) + 1) = (↑s.i : Int) ∧ I1 l ab s ∧ (l.length - s.i) * 10000 < (l.length - x.i - 1) * 10000 + 9000 ∧ True) ∧ (false = false → ((kd (at2 l (↑x.i : Int)).ki == 10) =
 true → (x.q2.length + [thL l x.i].length) * 8 ≤ 140737488355328 ∧ ∃ (b : Bool), (b = true → ∃ (s : LS), l = l ∧ ab = ab ∧ aL l ab x.i ++ [Att.mk (thL l x.i) (IntKind.i64.wrap ((↑x.i : Int) + 1)) false (0 : Int) (0 : Int)
 (6 : Int) (0 : Int) (0 : Int) [] [] [] [Wo.mk (2 : Int) (kd (at2 l (↑x.i : Int)).ki)]] = aL l ab (s.i + 1) ∧ oL x.i ++ [(↑x.i : Int)] = oL (s.i + 1) ∧ x.q0 = s.q0 ∧ x.q1 = s.q1 ∧ x.q2 ++ [thL l x.i] = s.q2 ∧ x.w0 = s.w0
 ∧ x.w1 = s.w1 ∧ x.w2 = s.w2 ∧ x.w3 = s.w3 ∧ (↑x.i : Int) = (↑s.i : Int) ∧ AVal.int IntKind.i64 (2 : Int) = AVal.int IntKind.i64 (0 : Int) ∧ (0 : Int) = s.n ∧ (0 : Int) = s.j ∧ I3 l ab (0 : Int) s ∧ (l.length - s.i - 1) *
 10000 + 1 + (s.n - s.j).toNat < (l.length - x.i - 1) * 10000 + 9000 ∧ True) ∧ (b = false → ∃ (b : Bool), (b = true → ∃ (s : LS), l = l ∧ ab = ab ∧ aL l ab x.i ++ [Att.mk (thL l x.i) (IntKind.i64.wrap ((↑x.i : Int) + 1))
 false (0 : Int) (0 : Int) (6 : Int) (0 : Int) (0 : Int) [] [] [] [Wo.mk (2 : Int) (kd (at2 l (↑x.i : Int)).ki)]] = aL l ab (s.i + 1) ∧ oL x.i ++ [(↑x.i : Int)] = oL (s.i + 1) ∧ x.q0 = s.q0 ∧ x.q1 = s.q1 ∧ x.q2 ++ [thL l
 x.i] = s.q2 ∧ x.w0 = s.w0 ∧ x.w1 = s.w1 ∧ x.w2 = s.w2 ∧ x.w3 = s.w3 ∧ (↑x.i : Int) = (↑s.i : Int) ∧ AVal.int IntKind.i64 (2 : Int) = AVal.int IntKind.i64 (1 : Int) ∧ (0 : Int) = s.n ∧ (0 : Int) = s.j ∧ I3 l ab (1 : Int)
 s ∧ (l.length - s.i - 1) * 10000 + 1 + (s.n - s.j).toNat < (l.length - x.i - 1) * 10000 + 9000 ∧ True) ∧ (b = false → ∃ (s : LS), l = l ∧ ab = ab ∧ aL l ab x.i ++ [Att.mk (thL l x.i) (IntKind.i64.wrap ((↑x.i : Int) + 1))
 false (0 : Int) (0 : Int) (6 : Int) (0 : Int) (0 : Int) [] [] [] [Wo.mk (2 : Int) (kd (at2 l (↑x.i : Int)).ki)]] = aL l ab (s.i + 1) ∧ oL x.i ++ [(↑x.i : Int)] = oL (s.i + 1) ∧ x.q0 = s.q0 ∧ x.q1 = s.q1 ∧ x.q2 ++ [thL l
 x.i] = s.q2 ∧ x.w0 = s.w0 ∧ x.w1 = s.w1 ∧ x.w2 = s.w2 ∧ x.w3 = s.w3 ∧ (↑x.i : Int) = (↑s.i : Int) ∧ AVal.int IntKind.i64 (2 : Int) = AVal.int IntKind.i64 (2 : Int) ∧ (0 : Int) = s.n ∧ (0 : Int) = s.j ∧ I3 l ab (2 : Int)
 s ∧ (l.length - s.i - 1) * 10000 + 1 + (s.n - s.j).toNat < (l.length - x.i - 1) * 10000 + 9000 ∧ True))) ∧ ((kd (at2 l (↑x.i : Int)).ki == 10) = false → ((kd (at2 l (↑x.i : Int)).ki == 13) = true → ∃ (b : Bool), (b =
 true → ∃ (s : LS), l = l ∧ ab = ab ∧ aL l ab x.i ++ [Att.mk (thL l x.i) (IntKind.i64.wrap ((↑x.i : Int) + 1)) false (0 : Int) (0 : Int) (6 : Int) (0 : Int) (0 : Int) [] [] [] [Wo.mk (2 : Int) (kd (at2 l (↑x.i :
 Int)).ki)]] = aL l ab (s.i + 1) ∧ oL x.i ++ [(↑x.i : Int)] = oL (s.i + 1) ∧ x.q0 = s.q0 ∧ x.q1 = s.q1 ∧ x.q2 = s.q2 ∧ x.w0 = s.w0 ∧ x.w1 = s.w1 ∧ x.w2 = s.w2 ∧ x.w3 = s.w3 ∧ (↑x.i : Int) = (↑s.i : Int) ∧ AVal.int
 IntKind.i64 (2 : Int) = AVal.int IntKind.i64 (0 : Int) ∧ (bif false then if (1 : Int) < (↑x.q2.length : Int) then (↑x.q2.length : Int) else (1 : Int) else if (↑x.q2.length : Int) < 1 then (↑x.q2.length : Int) else (1 :
 Int)) = s.n ∧ (0 : Int) = s.j ∧ I3 l ab (0 : Int) s ∧ (l.length - s.i - 1) * 10000 + 1 + (s.n - s.j).toNat < (l.length - x.i - 1) * 10000 + 9000 ∧ True) ∧ (b = false → ∃ (b : Bool), (b = true → ∃ (s : LS), l = l ∧ ab =
 ab ∧ aL l ab x.i ++ [Att.mk (thL l x.i) (IntKind.i64.wrap ((↑x.i : Int) + 1)) false (0 : Int) (0 : Int) (6 : Int) (0 : Int) (0 : Int) [] [] [] [Wo.mk (2 : Int) (kd (at2 l (↑x.i : Int)).ki)]] = aL l ab (s.i + 1) ∧ oL x.i
 ++ [(↑x.i : Int)] = oL (s.i + 1) ∧ x.q0 = s.q0 ∧ x.q1 = s.q1 ∧ x.q2 = s.q2 ∧ x.w0 = s.w0 ∧ x.w1 = s.w1 ∧ x.w2 = s.w2 ∧ x.w3 = s.w3 ∧ (↑x.i : Int) = (↑s.i : Int) ∧ AVal.int IntKind.i64 (2 : Int) = AVal.int IntKind.i64 (1
 : Int) ∧ (bif false then if (1 : Int) < (↑x.q2.length : Int) then (↑x.q2.length : Int) else (1 : Int) else if (↑x.q2.length : Int) < 1 then (↑x.q2.length : Int) else (1 : Int)) = s.n ∧ (0 : Int) = s.j ∧ I3 l ab (1 : Int)
 s ∧ (l.length - s.i - 1) * 10000 + 1 + (s.n - s.j).toNat < (l.length - x.i - 1) * 10000 + 9000 ∧ True) ∧ (b = false → ∃ (s : LS), l = l ∧ ab = ab ∧ aL l ab x.i ++ [Att.mk (thL l x.i) (IntKind.i64.wrap ((↑x.i : Int) + 1))
 false (0 : Int) (0 : Int) (6 : Int) (0 : Int) (0 : Int) [] [] [] [Wo.mk (2 : Int) (kd (at2 l (↑x.i : Int)).ki)]] = aL l ab (s.i + 1) ∧ oL x.i ++ [(↑x.i : Int)] = oL (s.i + 1) ∧ x.q0 = s.q0 ∧ x.q1 = s.q1 ∧ x.q2 = s.q2 ∧
 x.w0 = s.w0 ∧ x.w1 = s.w1 ∧ x.w2 = s.w2 ∧ x.w3 = s.w3 ∧ (↑x.i : Int) = (↑s.i : Int) ∧ AVal.int IntKind.i64 (2 : Int) = AVal.int IntKind.i64 (2 : Int) ∧ (bif false then if (1 : Int) < (↑x.q2.length : Int) then
 (↑x.q2.length : Int) else (1 : Int) else if (↑x.q2.length : Int) < 1 then (↑x.q2.length : Int) else (1 : Int)) = s.n ∧ (0 : Int) = s.j ∧ I3 l ab (2 : Int) s ∧ (l.length - s.i - 1) * 10000 + 1 + (s.n - s.j).toNat <
 (l.length - x.i - 1) * 10000 + 9000 ∧ True))) ∧ ((kd (at2 l (↑x.i : Int)).ki == 13) = false → ∃ (b : Bool), (b = true → ∃ (s : LS), l = l ∧ ab = ab ∧ aL l ab x.i ++ [Att.mk (thL l x.i) (IntKind.i64.wrap ((↑x.i : Int) +
 1)) false (0 : Int) (0 : Int) (6 : Int) (0 : Int) (0 : Int) [] [] [] [Wo.mk (2 : Int) (kd (at2 l (↑x.i : Int)).ki)]] = aL l ab (s.i + 1) ∧ oL x.i ++ [(↑x.i : Int)] = oL (s.i + 1) ∧ x.q0 = s.q0 ∧ x.q1 = s.q1 ∧ x.q2 = s.q2
 ∧ x.w0 = s.w0 ∧ x.w1 = s.w1 ∧ x.w2 = s.w2 ∧ x.w3 = s.w3 ∧ (↑x.i : Int) = (↑s.i : Int) ∧ AVal.int IntKind.i64 (2 : Int) = AVal.int IntKind.i64 (0 : Int) ∧ (↑x.q2.length : Int) = s.n ∧ (0 : Int) = s.j ∧ I3 l ab (0 : Int) s
 ∧ (l.length - s.i - 1) * 10000 + 1 + (s.n - s.j).toNat < (l.length - x.i - 1) * 10000 + 9000 ∧ True) ∧ (b = false → ∃ (b : Bool), (b = true → ∃ (s : LS), l = l ∧ ab = ab ∧ aL l ab x.i ++ [Att.mk (thL l x.i)
 (IntKind.i64.wrap ((↑x.i : Int) + 1)) false (0 : Int) (0 : Int) (6 : Int) (0 : Int) (0 : Int) [] [] [] [Wo.mk (2 : Int) (kd (at2 l (↑x.i : Int)).ki)]] = aL l ab (s.i + 1) ∧ oL x.i ++ [(↑x.i : Int)] = oL (s.i + 1) ∧ x.q0
 = s.q0 ∧ x.q1 = s.q1 ∧ x.q2 = s.q2 ∧ x.w0 = s.w0 ∧ x.w1 = s.w1 ∧ x.w2 = s.w2 ∧ x.w3 = s.w3 ∧ (↑x.i : Int) = (↑s.i : Int) ∧ AVal.int IntKind.i64 (2 : Int) = AVal.int IntKind.i64 (1 : Int) ∧ (↑x.q2.length : Int) = s.n ∧ (0
 : Int) = s.j ∧ I3 l ab (1 : Int) s ∧ (l.length - s.i - 1) * 10000 + 1 + (s.n - s.j).toNat < (l.length - x.i - 1) * 10000 + 9000 ∧ True) ∧ (b = false → ∃ (s : LS), l = l ∧ ab = ab ∧ aL l ab x.i ++ [Att.mk (thL l x.i)
 (IntKind.i64.wrap ((↑x.i : Int) + 1)) false (0 : Int) (0 : Int) (6 : Int) (0 : Int) (0 : Int) [] [] [] [Wo.mk (2 : Int) (kd (at2 l (↑x.i : Int)).ki)]] = aL l ab (s.i + 1) ∧ oL x.i ++ [(↑x.i : Int)] = oL (s.i + 1) ∧ x.q0
 = s.q0 ∧ x.q1 = s.q1 ∧ x.q2 = s.q2 ∧ x.w0 = s.w0 ∧ x.w1 = s.w1 ∧ x.w2 = s.w2 ∧ x.w3 = s.w3 ∧ (↑x.i : Int) = (↑s.i : Int) ∧ AVal.int IntKind.i64 (2 : Int) = AVal.int IntKind.i64 (2 : Int) ∧ (↑x.q2.length : Int) = s.n ∧ (0
 : Int) = s.j ∧ I3 l ab (2 : Int) s ∧ (l.length - s.i - 1) * 10000 + 1 + (s.n - s.j).toNat < (l.length - x.i - 1) * 10000 + 9000 ∧ True))))))) := by kernel_rfl
theorem lw_252 (l : List Cl) (ab : List Bool) (x : LS) : Go.Sy.Tree.holds (cutVC F (lookC qL) 300 Try.f4 bL (lwF l ab) 25 (c3 l ab 2) x) = ( (decide (x.j < x.n) = true → ((0 : Int) ≤ x.j ∧ x.j < (↑x.q2.length : Int)) ∧
 ((0 : Int) ≤ x.j ∧ x.j < (↑x.q2.length : Int)) ∧ ((0 : Int) ≤ at0 x.q2 x.j ∧ at0 x.q2 x.j < 4) ∧ ((at0 x.q2 x.j == 3) = true → ((0 : Int) ≤ at0 x.q2 x.j ∧ at0 x.q2 x.j < 4) ∧ ((at0 x.q2 x.j == 3) = true → ∃ (b : Bool),
 (b = true → ∃ (s : LS), l = l ∧ ab = ab ∧ aL l ab (x.i + 1) = aL l ab (s.i + 1) ∧ oL (x.i + 1) = oL (s.i + 1) ∧ x.q0 = s.q0 ∧ x.q1 = s.q1 ∧ x.q2 = s.q2 ∧ x.w0 = s.w0 ∧ x.w1 = s.w1 ∧ x.w2 = s.w2 ∧ IntKind.i64.wrap (x.w3 +
 1) = s.w3 ∧ (↑x.i : Int) = (↑s.i : Int) ∧ AVal.int IntKind.i64 (2 : Int) = AVal.int IntKind.i64 (0 : Int) ∧ x.n = s.n ∧ IntKind.i64.wrap (x.j + 1) = s.j ∧ I3 l ab (0 : Int) s ∧ (l.length - s.i - 1) * 10000 + 1 + (s.n -
 s.j).toNat < (l.length - x.i - 1) * 10000 + 1 + (x.n - x.j).toNat ∧ True) ∧ (b = false → ∃ (b : Bool), (b = true → ∃ (s : LS), l = l ∧ ab = ab ∧ aL l ab (x.i + 1) = aL l ab (s.i + 1) ∧ oL (x.i + 1) = oL (s.i + 1) ∧ x.q0
 = s.q0 ∧ x.q1 = s.q1 ∧ x.q2 = s.q2 ∧ x.w0 = s.w0 ∧ x.w1 = s.w1 ∧ x.w2 = s.w2 ∧ IntKind.i64.wrap (x.w3 + 1) = s.w3 ∧ (↑x.i : Int) = (↑s.i : Int) ∧ AVal.int IntKind.i64 (2 : Int) = AVal.int IntKind.i64 (1 : Int) ∧ x.n =
 s.n ∧ IntKind.i64.wrap (x.j + 1) = s.j ∧ I3 l ab (1 : Int) s ∧ (l.length - s.i - 1) * 10000 + 1 + (s.n - s.j).toNat < (l.length - x.i - 1) * 10000 + 1 + (x.n - x.j).toNat ∧ True) ∧ (b = false → ∃ (s : LS), l = l ∧ ab =
 ab ∧ aL l ab (x.i + 1) = aL l ab (s.i + 1) ∧ oL (x.i + 1) = oL (s.i + 1) ∧ x.q0 = s.q0 ∧ x.q1 = s.q1 ∧ x.q2 = s.q2 ∧ x.w0 = s.w0 ∧ x.w1 = s.w1 ∧ x.w2 = s.w2 ∧ IntKind.i64.wrap (x.w3 + 1) = s.w3 ∧ (↑x.i : Int) = (↑s.i :
 Int) ∧ AVal.int IntKind.i64 (2 : Int) = AVal.int IntKind.i64 (2 : Int) ∧ x.n = s.n ∧ IntKind.i64.wrap (x.j + 1) = s.j ∧ I3 l ab (2 : Int) s ∧ (l.length - s.i - 1) * 10000 + 1 + (s.n - s.j).toNat < (l.length - x.i - 1) *
 10000 + 1 + (x.n - x.j).toNat ∧ True))) ∧ ((at0 x.q2 x.j == 3) = false → ((at0 x.q2 x.j == 2) = true → ∃ (b : Bool), (b = true → ∃ (s : LS), l = l ∧ ab = ab ∧ aL l ab (x.i + 1) = aL l ab (s.i + 1) ∧ oL (x.i + 1) = oL
 (s.i + 1) ∧ x.q0 = s.q0 ∧ x.q1 = s.q1 ∧ x.q2 = s.q2 ∧ x.w0 = s.w0 ∧ x.w1 = s.w1 ∧ IntKind.i64.wrap (x.w3 + 1) = s.w2 ∧ x.w3 = s.w3 ∧ (↑x.i : Int) = (↑s.i : Int) ∧ AVal.int IntKind.i64 (2 : Int) = AVal.int IntKind.i64 (0
 : Int) ∧ x.n = s.n ∧ IntKind.i64.wrap (x.j + 1) = s.j ∧ I3 l ab (0 : Int) s ∧ (l.length - s.i - 1) * 10000 + 1 + (s.n - s.j).toNat < (l.length - x.i - 1) * 10000 + 1 + (x.n - x.j).toNat ∧ True) ∧ (b = false → ∃ (b :
 Bool), (b = true → ∃ (s : LS), l = l ∧ ab = ab ∧ aL l ab (x.i + 1) = aL l ab (s.i + 1) ∧ oL (x.i + 1) = oL (s.i + 1) ∧ x.q0 = s.q0 ∧ x.q1 = s.q1 ∧ x.q2 = s.q2 ∧ x.w0 = s.w0 ∧ x.w1 = s.w1 ∧ IntKind.i64.wrap (x.w3 + 1) =
 s.w2 ∧ x.w3 = s.w3 ∧ (↑x.i : Int) = (↑s.i : Int) ∧ AVal.int IntKind.i64 (2 : Int) = AVal.int IntKind.i64 (1 : Int) ∧ x.n = s.n ∧ IntKind.i64.wrap (x.j + 1) = s.j ∧ I3 l ab (1 : Int) s ∧ (l.length - s.i - 1) * 10000 + 1 +
 (s.n - s.j).toNat < (l.length - x.i - 1) * 10000 + 1 + (x.n - x.j).toNat ∧ True) ∧ (b = false → ∃ (s : LS), l = l ∧ ab = ab ∧ aL l ab (x.i + 1) = aL l ab (s.i + 1) ∧ oL (x.i + 1) = oL (s.i + 1) ∧ x.q0 = s.q0 ∧ x.q1 =
 s.q1 ∧ x.q2 = s.q2 ∧ x.w0 = s.w0 ∧ x.w1 = s.w1 ∧ IntKind.i64.wrap (x.w3 + 1) = s.w2 ∧ x.w3 = s.w3 ∧ (↑x.i : Int) = (↑s.i : Int) ∧ AVal.int IntKind.i64 (2 : Int) = AVal.int IntKind.i64 (2 : Int) ∧ x.n = s.n ∧
 IntKind.i64.wrap (x.j + 1) = s.j ∧ I3 l ab (2 : Int) s ∧ (l.length - s.i - 1) * 10000 + 1 + (s.n - s.j).toNat < (l.length - x.i - 1) * 10000 + 1 + (x.n - x.j).toNat ∧ True))) ∧ ((at0 x.q2 x.j == 2) = false → ((at0 x.q2
 x.j == 1) = true → ∃ (b : Bool), (b = true → ∃ (s : LS), l = l ∧ ab = ab ∧ aL l ab (x.i + 1) = aL l ab (s.i + 1) ∧ oL (x.i + 1) = oL (s.i + 1) ∧ x.q0 = s.q0 ∧ x.q1 = s.q1 ∧ x.q2 = s.q2 ∧ x.w0 = s.w0 ∧ IntKind.i64.wrap
 (x.w3 + 1) = s.w1 ∧ x.w2 = s.w2 ∧ x.w3 = s.w3 ∧ (↑x.i : Int) = (↑s.i : Int) ∧ AVal.int IntKind.i64 (2 : Int) = AVal.int IntKind.i64 (0 : Int) ∧ x.n = s.n ∧ IntKind.i64.wrap (x.j + 1) = s.j ∧ I3 l ab (0 : Int) s ∧
 (l.length - s.i - 1) * 10000 + 1 + (s.n - s.j).toNat < (l.length - x.i - 1) * 10000 + 1 + (x.n - x.j).toNat ∧ True) ∧ (b = false → ∃ (b : Bool), (b = true → ∃ (s : LS), l = l ∧ ab = ab ∧ aL l ab (x.i + 1) = aL l ab (s.i
 + 1) ∧ oL (x.i + 1) = oL (s.i + 1) ∧ x.q0 = s.q0 ∧ x.q1 = s.q1 ∧ x.q2 = s.q2 ∧ x.w0 = s.w0 ∧ IntKind.i64.wrap (x.w3 + 1) = s.w1 ∧ x.w2 = s.w2 ∧ x.w3 = s.w3 ∧ (↑x.i : Int) = (↑s.i : Int) ∧ AVal.int IntKind.i64 (2 : Int) =
 AVal.int IntKind.i64 (1 : Int) ∧ x.n = s.n ∧ IntKind.i64.wrap (x.j + 1) = s.j ∧ I3 l ab (1 : Int) s ∧ (l.length - s.i - 1) * 10000 + 1 + (s.n - s.j).toNat < (l.length - x.i - 1) * 10000 + 1 + (x.n - x.j).toNat ∧ True) ∧
 (b = false → ∃ (s : LS), l = l ∧ ab = ab ∧ aL l ab (x.i + 1) = aL l ab (s.i + 1) ∧ oL (x.i + 1) = oL (s.i + 1) ∧ x.q0 = s.q0 ∧ x.q1 = s.q1 ∧ x.q2 = s.q2 ∧ x.w0 = s.w0 ∧ IntKind.i64.wrap (x.w3 + 1) = s.w1 ∧ x.w2 = s.w2 ∧
 x.w3 = s.w3 ∧ (↑x.i : Int) = (↑s.i : Int) ∧ AVal.int IntKind.i64 (2 : Int) = AVal.int IntKind.i64 (2 : Int) ∧ x.n = s.n ∧ IntKind.i64.wrap (x.j + 1) = s.j ∧ I3 l ab (2 : Int) s ∧ (l.length - s.i - 1) * 10000 + 1 + (s.n -
 s.j).toNat < (l.length - x.i - 1) * 10000 + 1 + (x.n - x.j).toNat ∧ True))) ∧ ((at0 x.q2 x.j == 1) = false → ∃ (b : Bool), (b = true → ∃ (s : LS), l = l ∧ ab = ab ∧ aL l ab (x.i + 1) = aL l ab (s.i + 1) ∧ oL (x.i + 1) =
 oL (s.i + 1) ∧ x.q0 = s.q0 ∧ x.q1 = s.q1 ∧ x.q2 = s.q2 ∧ IntKind.i64.wrap (x.w3 + 1) = s.w0 ∧ x.w1 = s.w1 ∧ x.w2 = s.w2 ∧ x.w3 = s.w3 ∧ (↑x.i : Int) = (↑s.i : Int) ∧ AVal.int IntKind.i64 (2 : Int) = AVal.int IntKind.i64
 (0 : Int) ∧ x.n = s.n ∧ IntKind.i64.wrap (x.j + 1) = s.j ∧ I3 l ab (0 : Int) s ∧ (l.length - s.i - 1) * 10000 + 1 + (s.n - s.j).toNat < (l.length - x.i - 1) * 10000 + 1 + (x.n - x.j).toNat ∧ True) ∧ (b = false → ∃ (b :
 Bool), (b = true → ∃ (s : LS), l = l ∧ ab = ab ∧ aL l ab (x.i + 1) = aL l ab (s.i + 1) ∧ oL (x.i + 1) = oL (s.i + 1) ∧ x.q0 = s.q0 ∧ x.q1 = s.q1 ∧ x.q2 = s.q2 ∧ IntKind.i64.wrap (x.w3 + 1) = s.w0 ∧ x.w1 = s.w1 ∧ x.w2 =
 s.w2 ∧ x.w3 = s.w3 ∧ (↑x.i : Int) = (↑s.i : Int) ∧ AVal.int IntKind.i64 (2 : Int) = AVal.int IntKind.i64 (1 : Int) ∧ x.n = s.n ∧ IntKind.i64.wrap (x.j + 1) = s.j ∧ I3 l ab (1 : Int) s ∧ (l.length - s.i - 1) * 10000 + 1 +
 (s.n - s.j).toNat < (l.length - x.i - 1) * 10000 + 1 + (x.n - x.j).toNat ∧ True) ∧ (b = false → ∃ (s : LS), l = l ∧ ab = ab ∧ aL l ab (x.i + 1) = aL l ab (s.i + 1) ∧ oL (x.i + 1) = oL (s.i + 1) ∧ x.q0 = s.q0 ∧ x.q1 =
 s.q1 ∧ x.q2 = s.q2 ∧ IntKind.i64.wrap (x.w3 + 1) = s.w0 ∧ x.w1 = s.w1 ∧ x.w2 = s.w2 ∧ x.w3 = s.w3 ∧ (↑x.i : Int) = (↑s.i : Int) ∧ AVal.int IntKind.i64 (2 : Int) = AVal.int IntKind.i64 (2 : Int) ∧ x.n = s.n ∧
 IntKind.i64.wrap (x.j + 1) = s.j ∧ I3 l ab (2 : Int) s ∧ (l.length - s.i - 1) * 10000 + 1 + (s.n - s.j).toNat < (l.length - x.i - 1) * 10000 + 1 + (x.n - x.j).toNat ∧ True)))))) ∧ ((at0 x.q2 x.j == 3) = false → ((at0
 x.q2 x.j == 2) = true → ((0 : Int) ≤ at0 x.q2 x.j ∧ at0 x.q2 x.j < 4) ∧ ((at0 x.q2 x.j == 3) = true → ∃ (b : Bool), (b = true → ∃ (s : LS), l = l ∧ ab = ab ∧ aL l ab (x.i + 1) = aL l ab (s.i + 1) ∧ oL (x.i + 1) = oL (s.i
 + 1) ∧ x.q0 = s.q0 ∧ x.q1 = s.q1 ∧ x.q2 = s.q2 ∧ x.w0 = s.w0 ∧ x.w1 = s.w1 ∧ x.w2 = s.w2 ∧ IntKind.i64.wrap (x.w2 + 1) = s.w3 ∧ (↑x.i : Int) = (↑s.i : Int) ∧ AVal.int IntKind.i64 (2 : Int) = AVal.int IntKind.i64 (0 :
 Int) ∧ x.n = s.n ∧ IntKind.i64.wrap (x.j + 1) = s.j ∧ I3 l ab (0 : Int) s ∧ (l.length - s.i - 1) * 10000 + 1 + (s.n - s.j).toNat < (l.length - x.i - 1) * 10000 + 1 + (x.n - x.j).toNat ∧ True) ∧ (b = false → ∃ (b : Bool),
 (b = true → ∃ (s : LS), l = l ∧ ab = ab ∧ aL l ab (x.i + 1) = aL l ab (s.i + 1) ∧ oL (x.i + 1) = oL (s.i + 1) ∧ x.q0 = s.q0 ∧ x.q1 = s.q1 ∧ x.q2 = s.q2 ∧ x.w0 = s.w0 ∧ x.w1 = s.w1 ∧ x.w2 = s.w2 ∧ IntKind.i64.wrap (x.w2 +
 1) = s.w3 ∧ (↑x.i : Int) = (↑s.i : Int) ∧ AVal.int IntKind.i64 (2 : Int) = AVal.int IntKind.i64 (1 : Int) ∧ x.n = s.n ∧ IntKind.i64.wrap (x.j + 1) = s.j ∧ I3 l ab (1 : Int) s ∧ (l.length - s.i - 1) * 10000 + 1 + (s.n -
 s.j).toNat < (l.length - x.i - 1) * 10000 + 1 + (x.n - x.j).toNat ∧ True) ∧ (b = false → ∃ (s : LS), l = l ∧ ab = ab ∧ aL l ab (x.i + 1) = aL l ab (s.i + 1) ∧ oL (x.i + 1) = oL (s.i + 1) ∧ x.q0 = s.q0 ∧ x.q1 = s.q1 ∧
 x.q2 = s.q2 ∧ x.w0 = s.w0 ∧ x.w1 = s.w1 ∧ x.w2 = s.w2 ∧ IntKind.i64.wrap (x.w2 + 1) = s.w3 ∧ (↑x.i : Int) = (↑s.i : Int) ∧ AVal.int IntKind.i64 (2 : Int) = AVal.int IntKind.i64 (2 : Int) ∧ x.n = s.n ∧ IntKind.i64.wrap
 (x.j + 1) = s.j ∧ I3 l ab (2 : Int) s ∧ (l.length - s.i - 1) * 10000 + 1 + (s.n - s.j).toNat < (l.length - x.i - 1) * 10000 + 1 + (x.n - x.j).toNat ∧ True))) ∧ ((at0 x.q2 x.j == 3) = false → ((at0 x.q2 x.j == 2) = true →
 ∃ (b : Bool), (b = true → ∃ (s : LS), l = l ∧ ab = ab ∧ aL l ab (x.i + 1) = aL l ab (s.i + 1) ∧ oL (x.i + 1) = oL (s.i + 1) ∧ x.q0 = s.q0 ∧ x.q1 = s.q1 ∧ x.q2 = s.q2 ∧ x.w0 = s.w0 ∧ x.w1 = s.w1 ∧ IntKind.i64.wrap (x.w2 +
 1) = s.w2 ∧ x.w3 = s.w3 ∧ (↑x.i : Int) = (↑s.i : Int) ∧ AVal.int IntKind.i64 (2 : Int) = AVal.int IntKind.i64 (0 : Int) ∧ x.n = s.n ∧ IntKind.i64.wrap (x.j + 1) = s.j ∧ I3 l ab (0 : Int) s ∧ (l.length - s.i - 1) * 10000
 + 1 + (s.n - s.j).toNat < (l.length - x.i - 1) * 10000 + 1 + (x.n - x.j).toNat ∧ True) ∧ (b = false → ∃ (b : Bool), (b = true → ∃ (s : LS), l = l ∧ ab = ab ∧ aL l ab (x.i + 1) = aL l ab (s.i + 1) ∧ oL (x.i + 1) = oL (s.i
 + 1) ∧ x.q0 = s.q0 ∧ x.q1 = s.q1 ∧ x.q2 = s.q2 ∧ x.w0 = s.w0 ∧ x.w1 = s.w1 ∧ IntKind.i64.wrap (x.w2 + 1) = s.w2 ∧ x.w3 = s.w3 ∧ (↑x.i : Int) = (↑s.i : Int) ∧ AVal.int IntKind.i64 (2 : Int) = AVal.int IntKind.i64 (1 :
 Int) ∧ x.n = s.n ∧ IntKind.i64.wrap (x.j + 1) = s.j ∧ I3 l ab (1 : Int) s ∧ (l.length - s.i - 1) * 10000 + 1 + (s.n - s.j).toNat < (l.length - x.i - 1) * 10000 + 1 + (x.n - x.j).toNat ∧ True) ∧ (b = false → ∃ (s : LS), l
 = l ∧ ab = ab ∧ aL l ab (x.i + 1) = aL l ab (s.i + 1) ∧ oL (x.i + 1) = oL (s.i + 1) ∧ x.q0 = s.q0 ∧ x.q1 = s.q1 ∧ x.q2 = s.q2 ∧ x.w0 = s.w0 ∧ x.w1 = s.w1 ∧ IntKind.i64.wrap (x.w2 + 1) = s.w2 ∧ x.w3 = s.w3 ∧ (↑x.i : Int)
 = (↑s.i : Int) ∧ AVal.int IntKind.i64 (2 : Int) = AVal.int IntKind.i64 (2 : Int) ∧ x.n = s.n ∧ IntKind.i64.wrap (x.j + 1) = s.j ∧ I3 l ab (2 : Int) s ∧ (l.length - s.i - 1) * 10000 + 1 + (s.n - s.j).toNat < (l.length -
 x.i - 1) * 10000 + 1 + (x.n - x.j).toNat ∧ True))) ∧ ((at0 x.q2 x.j == 2) = false → ((at0 x.q2 x.j == 1) = true → ∃ (b : Bool), (b = true → ∃ (s : LS), l = l ∧ ab = ab ∧ aL l ab (x.i + 1) = aL l ab (s.i + 1) ∧ oL (x.i +
 1) = oL (s.i + 1) ∧ x.q0 = s.q0 ∧ x.q1 = s.q1 ∧ x.q2 = s.q2 ∧ x.w0 = s.w0 ∧ IntKind.i64.wrap (x.w2 + 1) = s.w1 ∧ x.w2 = s.w2 ∧ x.w3 = s.w3 ∧ (↑x.i : Int) = (↑s.i : Int) ∧ AVal.int IntKind.i64 (2 : Int) = AVal.int
 IntKind.i64 (0 : Int) ∧ x.n = s.n ∧ IntKind.i64.wrap (x.j + 1) = s.j ∧ I3 l ab (0 : Int) s ∧ (l.length - s.i - 1) * 10000 + 1 + (s.n - s.j).toNat < (l.length - x.i - 1) * 10000 + 1 + (x.n - x.j).toNat ∧ True) ∧ (b =
 false → ∃ (b : Bool), (b = true → ∃ (s : LS), l = l ∧ ab = ab ∧ aL l ab (x.i + 1) = aL l ab (s.i + 1) ∧ oL (x.i + 1) = oL (s.i + 1) ∧ x.q0 = s.q0 ∧ x.q1 = s.q1 ∧ x.q2 = s.q2 ∧ x.w0 = s.w0 ∧ IntKind.i64.wrap (x.w2 + 1) =
 s.w1 ∧ x.w2 = s.w2 ∧ x.w3 = s.w3 ∧ (↑x.i : Int) = (↑s.i : Int) ∧ AVal.int IntKind.i64 (2 : Int) = AVal.int IntKind.i64 (1 : Int) ∧ x.n = s.n ∧ IntKind.i64.wrap (x.j + 1) = s.j ∧ I3 l ab (1 : Int) s ∧ (l.length - s.i - 1)
 * 10000 + 1 + (s.n - s.j).toNat < (l.length - x.i - 1) * 10000 + 1 + (x.n - x.j).toNat ∧ True) ∧ (b = false → ∃ (s : LS), l = l ∧ ab = ab ∧ aL l ab (x.i + 1) = aL l ab (s.i + 1) ∧ oL (x.i + 1) = oL (s.i + 1) ∧ x.q0 =
 s.q0 ∧ x.q1 = s.q1 ∧ x.q2 = s.q2 ∧ x.w0 = s.w0 ∧ IntKind.i64.wrap (x.w2 + 1) = s.w1 ∧ x.w2 = s.w2 ∧ x.w3 = s.w3 ∧ (↑x.i : Int) = (↑s.i : Int) ∧ AVal.int IntKind.i64 (2 : Int) = AVal.int IntKind.i64 (2 : Int) ∧ x.n = s.n
 ∧ IntKind.i64.wrap (x.j + 1) = s.j ∧ I3 l ab (2 : Int) s ∧ (l.length - s.i - 1) * 10000 + 1 + (s.n - s.j).toNat < (l.length - x.i - 1) * 10000 + 1 + (x.n - x.j).toNat ∧ True))) ∧ ((at0 x.q2 x.j == 1) = false → ∃ (b :
 Bool), (b = true → ∃ (s : LS), l = l ∧ ab = ab ∧ aL l ab (x.i + 1) = aL l ab (s.i + 1) ∧ oL (x.i + 1) = oL (s.i + 1) ∧ x.q0 = s.q0 ∧ x.q1 = s.q1 ∧ x.q2 = s.q2 ∧ IntKind.i64.wrap (x.w2 + 1) = s.w0 ∧ x.w1 = s.w1 ∧ x.w2 =
 s.w2 ∧ x.w3 = s.w3 ∧ (↑x.i : Int) = (↑s.i : Int) ∧ AVal.int IntKind.i64 (2 : Int) = AVal.int IntKind.i64 (0 : Int) ∧ x.n = s.n ∧ IntKind.i64.wrap (x.j + 1) = s.j ∧ I3 l ab (0 : Int) s ∧ (l.length - s.i - 1) * 10000 + 1 +
 (s.n - s.j).toNat < (l.length - x.i - 1) * 10000 + 1 + (x.n - x.j).toNat ∧ True) ∧ (b = false → ∃ (b : Bool), (b = true → ∃ (s : LS), l = l ∧ ab = ab ∧ aL l ab (x.i + 1) = aL l ab (s.i + 1) ∧ oL (x.i + 1) = oL (s.i + 1)
 ∧ x.q0 = s.q0 ∧ x.q1 = s.q1 ∧ x.q2 = s.q2 ∧ IntKind.i64.wrap (x.w2 + 1) = s.w0 ∧ x.w1 = s.w1 ∧ x.w2 = s.w2 ∧ x.w3 = s.w3 ∧ (↑x.i : Int) = (↑s.i : Int) ∧ AVal.int IntKind.i64 (2 : Int) = AVal.int IntKind.i64 (1 : Int) ∧
 x.n = s.n ∧ IntKind.i64.wrap (x.j + 1) = s.j ∧ I3 l ab (1 : Int) s ∧ (l.length - s.i - 1) * 10000 + 1 + (s.n - s.j).toNat < (l.length - x.i - 1) * 10000 + 1 + (x.n - x.j).toNat ∧ True) ∧ (b = false → ∃ (s : LS), l = l ∧
 ab = ab ∧ aL l ab (x.i + 1) = aL l ab (s.i + 1) ∧ oL (x.i + 1) = oL (s.i + 1) ∧ x.q0 = s.q0 ∧ x.q1 = s.q1 ∧ x.q2 = s.q2 ∧ IntKind.i64.wrap (x.w2 + 1) = s.w0 ∧ x.w1 = s.w1 ∧ x.w2 = s.w2 ∧ x.w3 = s.w3 ∧ (↑x.i : Int) =
 (↑s.i : Int) ∧ AVal.int IntKind.i64 (2 : Int) = AVal.int IntKind.i64 (2 : Int) ∧ x.n = s.n ∧ IntKind.i64.wrap (x.j + 1) = s.j ∧ I3 l ab (2 : Int) s ∧ (l.length - s.i - 1) * 10000 + 1 + (s.n - s.j).toNat < (l.length - x.i
 - 1) * 10000 + 1 + (x.n - x.j).toNat ∧ True)))))) ∧ ((at0 x.q2 x.j == 2) = false → ((at0 x.q2 x.j == 1) = true → ((0 : Int) ≤ at0 x.q2 x.j ∧ at0 x.q2 x.j < 4) ∧ ((at0 x.q2 x.j == 3) = true → ∃ (b : Bool), (b = true → ∃
 (s : LS), l = l ∧ ab = ab ∧ aL l ab (x.i + 1) = aL l ab (s.i + 1) ∧ oL (x.i + 1) = oL (s.i + 1) ∧ x.q0 = s.q0 ∧ x.q1 = s.q1 ∧ x.q2 = s.q2 ∧ x.w0 = s.w0 ∧ x.w1 = s.w1 ∧ x.w2 = s.w2 ∧ IntKind.i64.wrap (x.w1 + 1) = s.w3 ∧
 (↑x.i : Int) = (↑s.i : Int) ∧ AVal.int IntKind.i64 (2 : Int) = AVal.int IntKind.i64 (0 : Int) ∧ x.n = s.n ∧ IntKind.i64.wrap (x.j + 1) = s.j ∧ I3 l ab (0 : Int) s ∧ (l.length - s.i - 1) * 10000 + 1 + (s.n - s.j).toNat <
 (l.length - x.i - 1) * 10000 + 1 + (x.n - x.j).toNat ∧ True) ∧ (b = false → ∃ (b : Bool), (b = true → ∃ (s : LS), l = l ∧ ab = ab ∧ aL l ab (x.i + 1) = aL l ab (s.i + 1) ∧ oL (x.i + 1) = oL (s.i + 1) ∧ x.q0 = s.q0 ∧ x.q1
 = s.q1 ∧ x.q2 = s.q2 ∧ x.w0 = s.w0 ∧ x.w1 = s.w1 ∧ x.w2 = s.w2 ∧ IntKind.i64.wrap (x.w1 + 1) = s.w3 ∧ (↑x.i : Int) = (↑s.i : Int) ∧ AVal.int IntKind.i64 (2 : Int) = AVal.int IntKind.i64 (1 : Int) ∧ x.n = s.n ∧
 IntKind.i64.wrap (x.j + 1) = s.j ∧ I3 l ab (1 : Int) s ∧ (l.length - s.i - 1) * 10000 + 1 + (s.n - s.j).toNat < (l.length - x.i - 1) * 10000 + 1 + (x.n - x.j).toNat ∧ True) ∧ (b = false → ∃ (s : LS), l = l ∧ ab = ab ∧ aL
 l ab (x.i + 1) = aL l ab (s.i + 1) ∧ oL (x.i + 1) = oL (s.i + 1) ∧ x.q0 = s.q0 ∧ x.q1 = s.q1 ∧ x.q2 = s.q2 ∧ x.w0 = s.w0 ∧ x.w1 = s.w1 ∧ x.w2 = s.w2 ∧ IntKind.i64.wrap (x.w1 + 1) = s.w3 ∧ (↑x.i : Int) = (↑s.i : Int) ∧
 AVal.int IntKind.i64 (2 : Int) = AVal.int IntKind.i64 (2 : Int) ∧ x.n = s.n ∧ IntKind.i64.wrap (x.j + 1) = s.j ∧ I3 l ab (2 : Int) s ∧ (l.length - s.i - 1) * 10000 + 1 + (s.n - s.j).toNat < (l.length - x.i - 1) * 10000 +
 1 + (x.n - x.j).toNat ∧ True))) ∧ ((at0 x.q2 x.j == 3) = false → ((at0 x.q2 x.j == 2) = true → ∃ (b : Bool), (b = true → ∃ (s : LS), l = l ∧ ab = ab ∧ aL l ab (x.i + 1) = aL l ab (s.i + 1) ∧ oL (x.i + 1) = oL (s.i + 1) ∧
 x.q0 = s.q0 ∧ x.q1 = s.q1 ∧ x.q2 = s.q2 ∧ x.w0 = s.w0 ∧ x.w1 = s.w1 ∧ IntKind.i64.wrap (x.w1 + 1) = s.w2 ∧ x.w3 = s.w3 ∧ (↑x.i : Int) = (↑s.i : Int) ∧ AVal.int IntKind.i64 (2 : Int) = AVal.int IntKind.i64 (0 : Int) ∧ x.n
 = s.n ∧ IntKind.i64.wrap (x.j + 1) = s.j ∧ I3 l ab (0 : Int) s ∧ (l.length - s.i - 1) * 10000 + 1 + (s.n - s.j).toNat < (l.length - x.i - 1) * 10000 + 1 + (x.n - x.j).toNat ∧ True) ∧ (b = false → ∃ (b : Bool), (b = true
 → ∃ (s : LS), l = l ∧ ab = ab ∧ aL l ab (x.i + 1) = aL l ab (s.i + 1) ∧ oL (x.i + 1) = oL (s.i + 1) ∧ x.q0 = s.q0 ∧ x.q1 = s.q1 ∧ x.q2 = s.q2 ∧ x.w0 = s.w0 ∧ x.w1 = s.w1 ∧ IntKind.i64.wrap (x.w1 + 1) = s.w2 ∧ x.w3 = s.w3
 ∧ (↑x.i : Int) = (↑s.i : Int) ∧ AVal.int IntKind.i64 (2 : Int) = AVal.int IntKind.i64 (1 : Int) ∧ x.n = s.n ∧ IntKind.i64.wrap (x.j + 1) = s.j ∧ I3 l ab (1 : Int) s ∧ (l.length - s.i - 1) * 10000 + 1 + (s.n - s.j).toNat
 < (l.length - x.i - 1) * 10000 + 1 + (x.n - x.j).toNat ∧ True) ∧ (b = false → ∃ (s : LS), l = l ∧ ab = ab ∧ aL l ab (x.i + 1) = aL l ab (s.i + 1) ∧ oL (x.i + 1) = oL (s.i + 1) ∧ x.q0 = s.q0 ∧ x.q1 = s.q1 ∧ x.q2 = s.q2 ∧
 x.w0 = s.w0 ∧ x.w1 = s.w1 ∧ IntKind.i64.wrap (x.w1 + 1) = s.w2 ∧ x.w3 = s.w3 ∧ (↑x.i : Int) = (↑s.i : Int) ∧ AVal.int IntKind.i64 (2 : Int) = AVal.int IntKind.i64 (2 : Int) ∧ x.n = s.n ∧ IntKind.i64.wrap (x.j + 1) = s.j
 ∧ I3 l ab (2 : Int) s ∧ (l.length - s.i - 1) * 10000 + 1 + (s.n - s.j).toNat < (l.length - x.i - 1) * 10000 + 1 + (x.n - x.j).toNat ∧ True))) ∧ ((at0 x.q2 x.j == 2) = false → ((at0 x.q2 x.j == 1) = true → ∃ (b : Bool),
 (b = true → ∃ (s : LS), l = l ∧ ab = ab ∧ aL l ab (x.i + 1) = aL l ab (s.i + 1) ∧ oL (x.i + 1) = oL (s.i + 1) ∧ x.q0 = s.q0 ∧ x.q1 = s.q1 ∧ x.q2 = s.q2 ∧ x.w0 = s.w0 ∧ IntKind.i64.wrap (x.w1 + 1) = s.w1 ∧ x.w2 = s.w2 ∧
 x.w3 = s.w3 ∧ (↑x.i : Int) = (↑s.i : Int) ∧ AVal.int IntKind.i64 (2 : Int) = AVal.int IntKind.i64 (0 : Int) ∧ x.n = s.n ∧ IntKind.i64.wrap (x.j + 1) = s.j ∧ I3 l ab (0 : Int) s ∧ (l.length - s.i - 1) * 10000 + 1 + (s.n -
 s.j).toNat < (l.length - x.i - 1) * 10000 + 1 + (x.n - x.j).toNat ∧ True) ∧ (b = false → ∃ (b : Bool), (b = true → ∃ (s : LS), l = l ∧ ab = ab ∧ aL l ab (x.i + 1) = aL l ab (s.i + 1) ∧ oL (x.i + 1) = oL (s.i + 1) ∧ x.q0
 = s.q0 ∧ x.q1 = s.q1 ∧ x.q2 = s.q2 ∧ x.w0 = s.w0 ∧ IntKind.i64.wrap (x.w1 + 1) = s.w1 ∧ x.w2 = s.w2 ∧ x.w3 = s.w3 ∧ (↑x.i : Int) = (↑s.i : Int) ∧ AVal.int IntKind.i64 (2 : Int) = AVal.int IntKind.i64 (1 : Int) ∧ x.n =
 s.n ∧ IntKind.i64.wrap (x.j + 1) = s.j ∧ I3 l ab (1 : Int) s ∧ (l.length - s.i - 1) * 10000 + 1 + (s.n - s.j).toNat < (l.length - x.i - 1) * 10000 + 1 + (x.n - x.j).toNat ∧ True) ∧ (b = false → ∃ (s : LS), l = l ∧ ab =
 ab ∧ aL l ab (x.i + 1) = aL l ab (s.i + 1) ∧ oL (x.i + 1) = oL (s.i + 1) ∧ x.q0 = s.q0 ∧ x.q1 = s.q1 ∧ x.q2 = s.q2 ∧ x.w0 = s.w0 ∧ IntKind.i64.wrap (x.w1 + 1) = s.w1 ∧ x.w2 = s.w2 ∧ x.w3 = s.w3 ∧ (↑x.i : Int) = (↑s.i :
 Int) ∧ AVal.int IntKind.i64 (2 : Int) = AVal.int IntKind.i64 (2 : Int) ∧ x.n = s.n ∧ IntKind.i64.wrap (x.j + 1) = s.j ∧ I3 l ab (2 : Int) s ∧ (l.length - s.i - 1) * 10000 + 1 + (s.n - s.j).toNat < (l.length - x.i - 1) *
 10000 + 1 + (x.n - x.j).toNat ∧ True))) ∧ ((at0 x.q2 x.j == 1) = false → ∃ (b : Bool), (b = true → ∃ (s : LS), l = l ∧ ab = ab ∧ aL l ab (x.i + 1) = aL l ab (s.i + 1) ∧ oL (x.i + 1) = oL (s.i + 1) ∧ x.q0 = s.q0 ∧ x.q1 =
 s.q1 ∧ x.q2 = s.q2 ∧ IntKind.i64.wrap (x.w1 + 1) = s.w0 ∧ x.w1 = s.w1 ∧ x.w2 = s.w2 ∧ x.w3 = s.w3 ∧ (↑x.i : Int) = (↑s.i : Int) ∧ AVal.int IntKind.i64 (2 : Int) = AVal.int IntKind.i64 (0 : Int) ∧ x.n = s.n ∧
 IntKind.i64.wrap (x.j + 1) = s.j ∧ I3 l ab (0 : Int) s ∧ (l.length - s.i - 1) * 10000 + 1 + (s.n - s.j).toNat < (l.length - x.i - 1) * 10000 + 1 + (x.n - x.j).toNat ∧ True) ∧ (b = false → ∃ (b : Bool), (b = true → ∃ (s :
 LS), l = l ∧ ab = ab ∧ aL l ab (x.i + 1) = aL l ab (s.i + 1) ∧ oL (x.i + 1) = oL (s.i + 1) ∧ x.q0 = s.q0 ∧ x.q1 = s.q1 ∧ x.q2 = s.q2 ∧ IntKind.i64.wrap (x.w1 + 1) = s.w0 ∧ x.w1 = s.w1 ∧ x.w2 = s.w2 ∧ x.w3 = s.w3 ∧ (↑x.i
 : Int) = (↑s.i : Int) ∧ AVal.int IntKind.i64 (2 : Int) = AVal.int IntKind.i64 (1 : Int) ∧ x.n = s.n ∧ IntKind.i64.wrap (x.j + 1) = s.j ∧ I3 l ab (1 : Int) s ∧ (l.length - s.i - 1) * 10000 + 1 + (s.n - s.j).toNat <
 (l.length - x.i - 1) * 10000 + 1 + (x.n - x.j).toNat ∧ True) ∧ (b = false → ∃ (s : LS), l = l ∧ ab = ab ∧ aL l ab (x.i + 1) = aL l ab (s.i + 1) ∧ oL (x.i + 1) = oL (s.i + 1) ∧ x.q0 = s.q0 ∧ x.q1 = s.q1 ∧ x.q2 = s.q2 ∧
 IntKind.i64.wrap (x.w1 + 1) = s.w0 ∧ x.w1 = s.w1 ∧ x.w2 = s.w2 ∧ x.w3 = s.w3 ∧ (↑x.i : Int) = (↑s.i : Int) ∧ AVal.int IntKind.i64 (2 : Int) = AVal.int IntKind.i64 (2 : Int) ∧ x.n = s.n ∧ IntKind.i64.wrap (x.j + 1) = s.j
 ∧ I3 l ab (2 : Int) s ∧ (l.length - s.i - 1) * 10000 + 1 + (s.n - s.j).toNat < (l.length - x.i - 1) * 10000 + 1 + (x.n - x.j).toNat ∧ True)))))) ∧ ((at0 x.q2 x.j == 1) = false → ((0 : Int) ≤ at0 x.q2 x.j ∧ at0 x.q2 x.j <
 4) ∧ ((at0 x.q2 x.j == 3) = true → ∃ (b : Bool), (b = true → ∃ (s : LS), l = l ∧ ab = ab ∧ aL l ab (x.i + 1) = aL l ab (s.i + 1) ∧ oL (x.i + 1) = oL (s.i + 1) ∧ x.q0 = s.q0 ∧ x.q1 = s.q1 ∧ x.q2 = s.q2 ∧ x.w0 = s.w0 ∧
 x.w1 = s.w1 ∧ x.w2 = s.w2 ∧ IntKind.i64.wrap (x.w0 + 1) = s.w3 ∧ (↑x.i : Int) = (↑s.i : Int) ∧ AVal.int IntKind.i64 (2 : Int) = AVal.int IntKind.i64 (0 : Int) ∧ x.n = s.n ∧ IntKind.i64.wrap (x.j + 1) = s.j ∧ I3 l ab (0 :
 Int) s ∧ (l.length - s.i - 1) * 10000 + 1 + (s.n - s.j).toNat < (l.length - x.i - 1) * 10000 + 1 + (x.n - x.j).toNat ∧ True) ∧ (b = false → ∃ (b : Bool), (b = true → ∃ (s : LS), l = l ∧ ab = ab ∧ aL l ab (x.i + 1) = aL l
 ab (s.i + 1) ∧ oL (x.i + 1) = oL (s.i + 1) ∧ x.q0 = s.q0 ∧ x.q1 = s.q1 ∧ x.q2 = s.q2 ∧ x.w0 = s.w0 ∧ x.w1 = s.w1 ∧ x.w2 = s.w2 ∧ IntKind.i64.wrap (x.w0 + 1) = s.w3 ∧ (↑x.i : Int) = (↑s.i : Int) ∧ AVal.int IntKind.i64 (2
 : Int) = AVal.int IntKind.i64 (1 : Int) ∧ x.n = s.n ∧ IntKind.i64.wrap (x.j + 1) = s.j ∧ I3 l ab (1 : Int) s ∧ (l.length - s.i - 1) * 10000 + 1 + (s.n - s.j).toNat < (l.length - x.i - 1) * 10000 + 1 + (x.n - x.j).toNat ∧
 True) ∧ (b = false → ∃ (s : LS), l = l ∧ ab = ab ∧ aL l ab (x.i + 1) = aL l ab (s.i + 1) ∧ oL (x.i + 1) = oL (s.i + 1) ∧ x.q0 = s.q0 ∧ x.q1 = s.q1 ∧ x.q2 = s.q2 ∧ x.w0 = s.w0 ∧ x.w1 = s.w1 ∧ x.w2 = s.w2 ∧
 IntKind.i64.wrap (x.w0 + 1) = s.w3 ∧ (↑x.i : Int) = (↑s.i : Int) ∧ AVal.int IntKind.i64 (2 : Int) = AVal.int IntKind.i64 (2 : Int) ∧ x.n = s.n ∧ IntKind.i64.wrap (x.j + 1) = s.j ∧ I3 l ab (2 : Int) s ∧ (l.length - s.i -
 1) * 10000 + 1 + (s.n - s.j).toNat < (l.length - x.i - 1) * 10000 + 1 + (x.n - x.j).toNat ∧ True))) ∧ ((at0 x.q2 x.j == 3) = false → ((at0 x.q2 x.j == 2) = true → ∃ (b : Bool), (b = true → ∃ (s : LS), l = l ∧ ab = ab ∧
 aL l ab (x.i + 1) = aL l ab (s.i + 1) ∧ oL (x.i + 1) = oL (s.i + 1) ∧ x.q0 = s.q0 ∧ x.q1 = s.q1 ∧ x.q2 = s.q2 ∧ x.w0 = s.w0 ∧ x.w1 = s.w1 ∧ IntKind.i64.wrap (x.w0 + 1) = s.w2 ∧ x.w3 = s.w3 ∧ (↑x.i : Int) = (↑s.i : Int) ∧
 AVal.int IntKind.i64 (2 : Int) = AVal.int IntKind.i64 (0 : Int) ∧ x.n = s.n ∧ IntKind.i64.wrap (x.j + 1) = s.j ∧ I3 l ab (0 : Int) s ∧ (l.length - s.i - 1) * 10000 + 1 + (s.n - s.j).toNat < (l.length - x.i - 1) * 10000 +
 1 + (x.n - x.j).toNat ∧ True) ∧ (b = false → ∃ (b : Bool), (b = true → ∃ (s : LS), l = l ∧ ab = ab ∧ aL l ab (x.i + 1) = aL l ab (s.i + 1) ∧ oL (x.i + 1) = oL (s.i + 1) ∧ x.q0 = s.q0 ∧ x.q1 = s.q1 ∧ x.q2 = s.q2 ∧ x.w0 =
 s.w0 ∧ x.w1 = s.w1 ∧ IntKind.i64.wrap (x.w0 + 1) = s.w2 ∧ x.w3 = s.w3 ∧ (↑x.i : Int) = (↑s.i : Int) ∧ AVal.int IntKind.i64 (2 : Int) = AVal.int IntKind.i64 (1 : Int) ∧ x.n = s.n ∧ IntKind.i64.wrap (x.j + 1) = s.j ∧ I3 l
 ab (1 : Int) s ∧ (l.length - s.i - 1) * 10000 + 1 + (s.n - s.j).toNat < (l.length - x.i - 1) * 10000 + 1 + (x.n - x.j).toNat ∧ True) ∧ (b = false → ∃ (s : LS), l = l ∧ ab = ab ∧ aL l ab (x.i + 1) = aL l ab (s.i + 1) ∧ oL
 (x.i + 1) = oL (s.i + 1) ∧ x.q0 = s.q0 ∧ x.q1 = s.q1 ∧ x.q2 = s.q2 ∧ x.w0 = s.w0 ∧ x.w1 = s.w1 ∧ IntKind.i64.wrap (x.w0 + 1) = s.w2 ∧ x.w3 = s.w3 ∧ (↑x.i : Int) = (↑s.i : Int) ∧ AVal.int IntKind.i64 (2 : Int) = AVal.int
 IntKind.i64 (2 : Int) ∧ x.n = s.n ∧ IntKind.i64.wrap (x.j + 1) = s.j ∧ I3 l ab (2 : Int) s ∧ (l.length - s.i - 1) * 10000 + 1 + (s.n - s.j).toNat < (l.length - x.i - 1) * 10000 + 1 + (x.n - x.j).toNat ∧ True))) ∧ ((at0
 x.q2 x.j == 2) = false → ((at0 x.q2 x.j == 1) = true → ∃ (b : Bool), (b = true → ∃ (s : LS), l = l ∧ ab = ab ∧ aL l ab (x.i + 1) = aL l ab (s.i + 1) ∧ oL (x.i + 1) = oL (s.i + 1) ∧ x.q0 = s.q0 ∧ x.q1 = s.q1 ∧ x.q2 = s.q2
 ∧ x.w0 = s.w0 ∧ IntKind.i64.wrap (x.w0 + 1) = s.w1 ∧ x.w2 = s.w2 ∧ x.w3 = s.w3 ∧ (↑x.i : Int) = (↑s.i : Int) ∧ AVal.int IntKind.i64 (2 : Int) = AVal.int IntKind.i64 (0 : Int) ∧ x.n = s.n ∧ IntKind.i64.wrap (x.j + 1) =
 s.j ∧ I3 l ab (0 : Int) s ∧ (l.length - s.i - 1) * 10000 + 1 + (s.n - s.j).toNat < (l.length - x.i - 1) * 10000 + 1 + (x.n - x.j).toNat ∧ True) ∧ (b = false → ∃ (b : Bool), (b = true → ∃ (s : LS), l = l ∧ ab = ab ∧ aL l
 ab (x.i + 1) = aL l ab (s.i + 1) ∧ oL (x.i + 1) = oL (s.i + 1) ∧ x.q0 = s.q0 ∧ x.q1 = s.q1 ∧ x.q2 = s.q2 ∧ x.w0 = s.w0 ∧ IntKind.i64.wrap (x.w0 + 1) = s.w1 ∧ x.w2 = s.w2 ∧ x.w3 = s.w3 ∧ (↑x.i : Int) = (↑s.i : Int) ∧
 AVal.int IntKind.i64 (2 : Int) = AVal.int IntKind.i64 (1 : Int) ∧ x.n = s.n ∧ IntKind.i64.wrap (x.j + 1) = s.j ∧ I3 l ab (1 : Int) s ∧ (l.length - s.i - 1) * 10000 + 1 + (s.n - s.j).toNat < (l.length - x.i - 1) * 10000 +
 1 + (x.n - x.j).toNat ∧ True) ∧ (b = false → ∃ (s : LS), l = l ∧ ab = ab ∧ aL l ab (x.i + 1) = aL l ab (s.i + 1) ∧ oL (x.i + 1) = oL (s.i + 1) ∧ x.q0 = s.q0 ∧ x.q1 = s.q1 ∧ x.q2 = s.q2 ∧ x.w0 = s.w0 ∧ IntKind.i64.wrap
 (x.w0 + 1) = s.w1 ∧ x.w2 = s.w2 ∧ x.w3 = s.w3 ∧ (↑x.i : Int) = (↑s.i : Int) ∧ AVal.int IntKind.i64 (2 : Int) = AVal.int IntKind.i64 (2 : Int) ∧ x.n = s.n ∧ IntKind.i64.wrap (x.j + 1) = s.j ∧ I3 l ab (2 : Int) s ∧
 (l.length - s.i - 1) * 10000 + 1 + (s.n - s.j).toNat < (l.length - x.i - 1) * 10000 + 1 + (x.n - x.j).toNat ∧ True))) ∧ ((at0 x.q2 x.j == 1) = false → ∃ (b : Bool), (b = true → ∃ (s : LS), l = l ∧ ab = ab ∧ aL l ab (x.i
 + 1) = aL l ab (s.i + 1) ∧ oL (x.i + 1) = oL (s.i + 1) ∧ x.q0 = s.q0 ∧ x.q1 = s.q1 ∧ x.q2 = s.q2 ∧ IntKind.i64.wrap (x.w0 + 1) = s.w0 ∧ x.w1 = s.w1 ∧ x.w2 = s.w2 ∧ x.w3 = s.w3 ∧ (↑x.i : Int) = (↑s.i : Int) ∧ AVal.int
 IntKind.i64 (2 : Int) = AVal.int IntKind.i64 (0 : Int) ∧ x.n = s.n ∧ IntKind.i64.wrap (x.j + 1) = s.j ∧ I3 l ab (0 : Int) s ∧ (l.length - s.i - 1) * 10000 + 1 + (s.n - s.j).toNat < (l.length - x.i - 1) * 10000 + 1 + (x.n
 - x.j).toNat ∧ True) ∧ (b = false → ∃ (b : Bool), (b = true → ∃ (s : LS), l = l ∧ ab = ab ∧ aL l ab (x.i + 1) = aL l ab (s.i + 1) ∧ oL (x.i + 1) = oL (s.i + 1) ∧ x.q0 = s.q0 ∧ x.q1 = s.q1 ∧ x.q2 = s.q2 ∧ IntKind.i64.wrap
 (x.w0 + 1) = s.w0 ∧ x.w1 = s.w1 ∧ x.w2 = s.w2 ∧ x.w3 = s.w3 ∧ (↑x.i : Int) = (↑s.i : Int) ∧ AVal.int IntKind.i64 (2 : Int) = AVal.int IntKind.i64 (1 : Int) ∧ x.n = s.n ∧ IntKind.i64.wrap (x.j + 1) = s.j ∧ I3 l ab (1 :
 Int) s ∧ (l.length - s.i - 1) * 10000 + 1 + (s.n - s.j).toNat < (l.length - x.i - 1) * 10000 + 1 + (x.n - x.j).toNat ∧ True) ∧ (b = false → ∃ (s : LS), l = l ∧ ab = ab ∧ aL l ab (x.i + 1) = aL l ab (s.i + 1) ∧ oL (x.i +
 1) = oL (s.i + 1) ∧ x.q0 = s.q0 ∧ x.q1 = s.q1 ∧ x.q2 = s.q2 ∧ IntKind.i64.wrap (x.w0 + 1) = s.w0 ∧ x.w1 = s.w1 ∧ x.w2 = s.w2 ∧ x.w3 = s.w3 ∧ (↑x.i : Int) = (↑s.i : Int) ∧ AVal.int IntKind.i64 (2 : Int) = AVal.int
 IntKind.i64 (2 : Int) ∧ x.n = s.n ∧ IntKind.i64.wrap (x.j + 1) = s.j ∧ I3 l ab (2 : Int) s ∧ (l.length - s.i - 1) * 10000 + 1 + (s.n - s.j).toNat < (l.length - x.i - 1) * 10000 + 1 + (x.n - x.j).toNat ∧ True))))))))) ∧
 (decide (x.j < x.n) = false → ((0 : Int) ≤ x.n ∧ x.n ≤ (↑x.q2.length : Int) ∧ (↑x.q2.length : Int) ≤ (↑x.q2.length : Int)) ∧ ∃ (s : LS), l = l ∧ ab = ab ∧ aL l ab (x.i + 1) = aL l ab s.i ∧ oL (x.i + 1) = oL s.i ∧ x.q0 =
 s.q0 ∧ x.q1 = s.q1 ∧ List.take ((↑x.q2.length : Int).toNat - x.n.toNat) (List.drop x.n.toNat x.q2) = s.q2 ∧ x.w0 = s.w0 ∧ x.w1 = s.w1 ∧ x.w2 = s.w2 ∧ x.w3 = s.w3 ∧ IntKind.i64.wrap ((↑x.i : Int) + 1) = (↑s.i : Int) ∧ I1
 l ab s ∧ (l.length - s.i) * 10000 < (l.length - x.i - 1) * 10000 + 1 + (x.n - x.j).toNat ∧ True)) := by kernel_rfl

section
variable {l : List Cl} {ab : List Bool} {x : LS}
theorem to1 {M : Nat} {q0 q1 q2 : List Int} {w0 w1 w2 w3 : Int} {al : List Att} {ol : List Int} (hl : l.length ≤ 40) (hab : ab.length ≤ 40) (hi : x.i < l.length) (ha : al = aL l ab (x.i + 1)) (ho : ol = oL (x.i + 1)) (hs : lsOk ⟨q0, q1, q2, [w0, w1, w2, w3]⟩ (x.i + 1)) (he : (⟨q0, q1, q2, [w0, w1, w2, w3]⟩ : QS) = stL l ab (x.i + 1)) (hM : (l.length - (x.i + 1)) * 10000 < M) :
    ∃ (s : LS), l = l ∧ ab = ab ∧ al = aL l ab s.i ∧ ol = oL s.i ∧ q0 = s.q0 ∧ q1 = s.q1 ∧ q2 = s.q2 ∧ w0 = s.w0 ∧ w1 = s.w1 ∧ w2 = s.w2 ∧ w3 = s.w3 ∧ IntKind.i64.wrap ((x.i : Int) + (1 : Int)) = (s.i : Int) ∧ I1 l ab s ∧ (l.length - s.i) * 10000 < M ∧ True :=
  ⟨⟨x.i + 1, 0, 0, q0, q1, q2, w0, w1, w2, w3⟩, rfl, rfl, ha, ho, rfl, rfl, rfl, rfl, rfl, rfl, rfl, succ64 (by omega), ⟨hl, hab, hi, hs, he⟩, hM, trivial⟩
theorem to3 {c : Int} {M : Nat} {q0 q1 q2 : List Int} {w0 w1 w2 w3 nn jj : Int} {al : List Att} {ol : List Int} (ha : al = aL l ab (x.i + 1)) (ho : ol = oL (x.i + 1)) (h : I3 l ab c ⟨x.i, jj, nn, q0, q1, q2, w0, w1, w2, w3⟩) (hM : (l.length - x.i - 1) * 10000 + 1 + (nn - jj).toNat < M) :
    ∃ (s : LS), l = l ∧ ab = ab ∧ al = aL l ab (s.i + 1) ∧ ol = oL (s.i + 1) ∧ q0 = s.q0 ∧ q1 = s.q1 ∧ q2 = s.q2 ∧ w0 = s.w0 ∧ w1 = s.w1 ∧ w2 = s.w2 ∧ w3 = s.w3 ∧ (x.i : Int) = (s.i : Int) ∧ AVal.int IntKind.i64 c = AVal.int IntKind.i64 c ∧ nn = s.n ∧ jj = s.j ∧ I3 l ab c s ∧ (l.length - s.i - 1) * 10000 + 1 + (s.n - s.j).toNat < M ∧ True :=
  ⟨⟨x.i, jj, nn, q0, q1, q2, w0, w1, w2, w3⟩, rfl, rfl, ha, ho, rfl, rfl, rfl, rfl, rfl, rfl, rfl, rfl, rfl, rfl, rfl, h, hM, trivial⟩
theorem to2 {c kk : Int} {M : Nat} (hl : l.length ≤ 40) (hab : ab.length ≤ 40) (hi : x.i < l.length) (hs : lsOk x.s x.i) (he : x.s = stL l ab x.i) (hc : pk (at2 l x.i).co 3 = c) (hk : kk = kd (at2 l x.i).ki) (hM : (l.length - x.i - 1) * 10000 + 9000 < M) :
    ∃ (s : LS), l = l ∧ ab = ab ∧ aL l ab x.i = aL l ab s.i ∧ oL x.i = oL s.i ∧ x.q0 = s.q0 ∧ x.q1 = s.q1 ∧ x.q2 = s.q2 ∧ x.w0 = s.w0 ∧ x.w1 = s.w1 ∧ x.w2 = s.w2 ∧ x.w3 = s.w3 ∧ (x.i : Int) = (s.i : Int) ∧ IntKind.i64.wrap ((IntKind.u64.wrap (at2 l x.i).th).tmod 4) = thL l s.i ∧ AVal.int IntKind.i64 (IntKind.i64.wrap ((IntKind.u64.wrap (at2 l x.i).co).tmod 3)) = AVal.int IntKind.i64 c ∧ kk = kd (at2 l s.i).ki ∧ IntKind.i64.wrap ((IntKind.u64.wrap (at2 l x.i).th).tmod 4) = thL l s.i ∧
      IntKind.i64.wrap ((x.i : Int) + 1) = IntKind.i64.wrap ((s.i : Int) + 1) ∧ false = false ∧ (0 : Int) = 0 ∧ (0 : Int) = 0 ∧ (6 : Int) = 6 ∧ (0 : Int) = 0 ∧ (0 : Int) = 0 ∧ ([] : List Wo) = [] ∧ ([] : List Wo) = [] ∧ ([] : List Int) = [] ∧ [Wo.mk (IntKind.i64.wrap ((IntKind.u64.wrap (at2 l x.i).co).tmod 3)) kk] = [Wo.mk c (kd (at2 l s.i).ki)] ∧ I2 l ab c s ∧ (l.length - s.i - 1) * 10000 + 9000 < M ∧ True :=
  ⟨x, rfl, rfl, rfl, rfl, rfl, rfl, rfl, rfl, rfl, rfl, rfl, rfl, rfl, congrArg (AVal.int IntKind.i64) hc, hk, rfl, rfl, rfl, rfl, rfl, rfl, rfl, rfl, rfl, rfl, rfl, by rw [← hk, show IntKind.i64.wrap ((IntKind.u64.wrap (at2 l x.i).co).tmod 3) = c from hc], ⟨hl, hab, hi, hs, he, hc⟩, hM, trivial⟩
end
section
variable (l : List Cl) (ab : List Bool)
theorem lw_e_ok : Paid (entryX F (lookC qL) 300 Try.f4 bL (lwF l ab) [.tl (T := T) 2 l, .tl (T := T) 1 ab]) := by
  refine ⟨?_⟩
  rw [lw_e]
  refine ⟨fun _ => ⟨rfl, trivial⟩, fun h1 => ⟨fun _ => ⟨rfl, trivial⟩, fun h2 => ?_⟩⟩
  have h1 : ¬ (l.length : Int) > 40 := of_decide_eq_false h1
  have h2 : ¬ (ab.length : Int) > 40 := of_decide_eq_false h2
  have none : ∀ t : Int, t ∈ ([] : List Int) → 0 ≤ t ∧ t < 4 := fun t ht => by cases ht
  exact ⟨⟨0, 0, 0, [], [], [], 0, 0, 0, 0⟩, rfl, rfl, rfl, rfl, rfl, rfl, rfl, rfl, rfl, rfl, rfl, rfl, ⟨by omega, by omega, Nat.zero_le _, ⟨⟨Nat.le_refl _, Nat.le_refl _, Nat.le_refl _⟩, none, none, none⟩, rfl⟩, trivial⟩
variable (x : LS)
theorem lw_8_ok (hI : I1 l ab x) : Paid (cutVC F (lookC qL) 300 Try.f4 bL (lwF l ab) 8 (c1 l ab) x) := by
  refine ⟨?_⟩
  rw [lw_8]
  obtain ⟨hl, hab, hi, hs, he⟩ := hI
  refine ⟨fun h => ?_, fun h => ?_⟩
  · have h : (x.i : Int) < (l.length : Int) := of_decide_eq_true h
    have hi : x.i < l.length := by omega
    have b : (0 : Int) ≤ (x.i : Int) ∧ (x.i : Int) < (l.length : Int) := ⟨by omega, h⟩
    have hm : (l.length - x.i - 1) * 10000 + 9000 < (l.length - x.i) * 10000 := by omega
    have kk := tmod_is (at2 l x.i).ki (n := 3) (by decide) (by decide)
    have leaf := fun (c k : Int) (hc : pk (at2 l x.i).co 3 = c) (hk : k = kd (at2 l x.i).ki) => to2 hl hab hi hs he hc hk hm
    refine ⟨b, b, b, kk, fun k2 => ?_, fun k2 => ⟨fun k1 => ?_, fun k1 => ?_⟩⟩
    · have k2 : (IntKind.u64.wrap (at2 l x.i).ki).tmod 3 = 2 := eq_of_beq k2
      have hk : (14 : Int) = kd (at2 l x.i).ki := by rw [kd, k2]; rfl
      rcases pk3 (at2 l x.i).co with c | c | c
      · exact fam0 (leaf 0 14 c hk)
      · exact fam1 (leaf 1 14 c hk)
      · exact fam2 (leaf 2 14 c hk)
    · have k1 : (IntKind.u64.wrap (at2 l x.i).ki).tmod 3 = 1 := eq_of_beq k1
      have hk : (13 : Int) = kd (at2 l x.i).ki := by rw [kd, k1]; rfl
      rcases pk3 (at2 l x.i).co with c | c | c
      · exact fam0 (leaf 0 13 c hk)
      · exact fam1 (leaf 1 13 c hk)
      · exact fam2 (leaf 2 13 c hk)
    · have k2 : ¬ (IntKind.u64.wrap (at2 l x.i).ki).tmod 3 = 2 := ne_of_beq_false k2
      have k1 : ¬ (IntKind.u64.wrap (at2 l x.i).ki).tmod 3 = 1 := ne_of_beq_false k1
      have k0 : (IntKind.u64.wrap (at2 l x.i).ki).tmod 3 = 0 := by omega
      have hk : (10 : Int) = kd (at2 l x.i).ki := by rw [kd, k0]; rfl
      rcases pk3 (at2 l x.i).co with c | c | c
      · exact fam0 (leaf 0 10 c hk)
      · exact fam1 (leaf 1 10 c hk)
      · exact fam2 (leaf 2 10 c hk)
  · have h : ¬ (x.i : Int) < (l.length : Int) := of_decide_eq_false h
    have p1 : wkPre (aL l ab x.i) (oL x.i) := aL_pre (by omega) (by rw [oL_len]; omega)
    have p2 : wkPre (aL l ab x.i) [] := aL_pre (by omega) (Nat.zero_le _)
    have e : wokenF (aL l ab x.i) (oL x.i) 4 = [x.w0, x.w1, x.w2, x.w3] := by
      rw [woken_law, ← he]
      rfl
    have e2 : ((wokenF (aL l ab x.i) (oL x.i) 2).length : Int) = 2 := by rw [woken_len]; rfl
    have e9 : ((wokenF (aL l ab x.i) [] 9).length : Int) = 4 := by rw [woken_len]; rfl
    have em : ((wokenF (aL l ab x.i) (oL x.i) (-1)).length : Int) = 0 := by rw [woken_len]; rfl
    refine ⟨p1, by show (wokenF (aL l ab x.i) (oL x.i) 4).length ≤ 1000; rw [e]; exact Nat.le_of_ble_eq_true rfl, fun _ => ⟨p1, fun _ => ⟨p2, fun _ => ⟨p1, beq_iff_eq.2 em, trivial⟩, fun g => ?_⟩, fun g => ?_⟩, fun g => ?_⟩
    · exact absurd e9 (ne_of_beq_false g)
    · exact absurd e2 (ne_of_beq_false g)
    · exact absurd e (ne_of_beq_false g)

theorem lw_130_ok (hI : I2 l ab 0 x) : Paid (cutVC F (lookC qL) 300 Try.f4 bL (lwF l ab) 13 (c2 l ab 0) x) := by
  refine ⟨?_⟩
  rw [lw_130]
  obtain ⟨hl, hab, hi, hs, he, hco⟩ := hI
  have hal := aL_len l ab x.i
  have hol := oL_len x.i
  have hq : x.q0.length ≤ x.i := qle_q hs.1 0
  have hth : 0 ≤ thL l x.i ∧ thL l x.i < 4 := pk_is _ (by decide) (by decide)
  have hst : abF ab x.i = false → callF (thL l x.i) (woF l x.i) x.s = stL l ab (x.i + 1) := fun h => by rw [stL, if_neg (by rw [h]; decide), ← he]; rfl
  have hpl : (woF l x.i).pl = 0 := hco
  have k1 := fun (h : abF ab x.i = true) => to1 (x := x) (M := (l.length - x.i - 1) * 10000 + 9000) (q0 := x.q0) (q1 := x.q1) (q2 := x.q2) (w0 := x.w0) (w1 := x.w1) (w2 := x.w2) (w3 := x.w3) hl hab hi (aL_hit h hco) (oL_succ x.i).symm (lsOk_mono hs (Nat.le_succ _)) (by rw [stL, if_pos h]; exact he) (by omega)
  have k10 := fun (h : abF ab x.i = false) (hk : kd (at2 l x.i).ki = 10) => to3 (c := 0) (x := x) (M := (l.length - x.i - 1) * 10000 + 9000) (nn := 0) (jj := 0) (q0 := x.q0 ++ [thL l x.i]) (q1 := x.q1) (q2 := x.q2) (w0 := x.w0) (w1 := x.w1) (w2 := x.w2) (w3 := x.w3) (aL_miss h hco) (oL_succ x.i).symm
    ⟨hl, hab, hi, lsOk_setq (c := 0) (lsOk_mono hs (Nat.le_succ _)) (l := x.q0 ++ [thL l x.i]) (by show (x.q0 ++ [thL l x.i]).length ≤ x.i + 1; simp; omega) (fun t ht => by
      rcases List.mem_append.1 ht with ht | ht
      · exact lsOk_q hs 0 t ht
      · rw [List.mem_singleton] at ht; subst ht; exact hth), Int.le_refl _, Int.le_refl _, Int.natCast_nonneg _, by
      rw [← hst h, callF_10 (show (woF l x.i).vl = 10 from hk), hpl]
      exact rest_end⟩ (by omega)
  have k13 := fun (h : abF ab x.i = false) (hk : kd (at2 l x.i).ki = 13) => to3 (c := 0) (x := x) (M := (l.length - x.i - 1) * 10000 + 9000) (nn := if ((x.q0.length : Nat) : Int) < 1 then ((x.q0.length : Nat) : Int) else 1) (jj := 0) (q0 := x.q0) (q1 := x.q1) (q2 := x.q2) (w0 := x.w0) (w1 := x.w1) (w2 := x.w2) (w3 := x.w3) (aL_miss h hco) (oL_succ x.i).symm
    ⟨hl, hab, hi, lsOk_mono hs (Nat.le_succ _), Int.le_refl _, (by dsimp only; split <;> omega), (by show (if ((x.q0.length : Nat) : Int) < 1 then ((x.q0.length : Nat) : Int) else 1) ≤ ((x.q0.length : Nat) : Int); split <;> omega), by
      rw [← hst h, callF_13 (show (woF l x.i).vl = 13 from hk), hpl, wakes_gone]
      refine rest_gone.trans (gone_one ?_)
      show (if ((x.q0.length : Nat) : Int) < 1 then ((x.q0.length : Nat) : Int) else 1).toNat = min 1 x.q0.length
      split <;> omega⟩ (by split <;> omega)
  have k14 := fun (h : abF ab x.i = false) (hk : kd (at2 l x.i).ki = 14) => to3 (c := 0) (x := x) (M := (l.length - x.i - 1) * 10000 + 9000) (nn := ((x.q0.length : Nat) : Int)) (jj := 0) (q0 := x.q0) (q1 := x.q1) (q2 := x.q2) (w0 := x.w0) (w1 := x.w1) (w2 := x.w2) (w3 := x.w3) (aL_miss h hco) (oL_succ x.i).symm
    ⟨hl, hab, hi, lsOk_mono hs (Nat.le_succ _), Int.le_refl _, Int.natCast_nonneg _, Int.le_refl _, by
      rw [← hst h, callF_14 (show (woF l x.i).vl = 14 from hk), hpl, wakes_gone]
      exact rest_gone⟩ (by omega)
  have kds := kd_is (at2 l x.i).ki
  clear hst he
  repeat' (first | apply And.intro | intro _)
  all_goals try simp only [beq_iff_eq, beq_eq_false_iff_ne, ne_eq, decide_eq_true_eq, decide_eq_false_iff_not, Bool.false_eq_true] at *
  all_goals first
    | exact k1 (by rw [ab_hit (by assumption)]; assumption)
    | exact fam0 (k10 (by first | exact ab_out (by assumption) | (rw [ab_hit (by assumption)]; assumption)) (by assumption))
    | exact fam0 (k13 (by first | exact ab_out (by assumption) | (rw [ab_hit (by assumption)]; assumption)) (by assumption))
    | exact fam0 (k14 (by first | exact ab_out (by assumption) | (rw [ab_hit (by assumption)]; assumption)) (by clear k1 k10 k13 k14; omega))
    | (clear k1 k10 k13 k14; simp only [List.length_cons, List.length_nil]; omega)
    | (clear k1 k10 k13 k14; omega)
theorem lw_250_ok (hI : I3 l ab 0 x) : Paid (cutVC F (lookC qL) 300 Try.f4 bL (lwF l ab) 25 (c3 l ab 0) x) := by
  refine ⟨?_⟩
  rw [lw_250]
  obtain ⟨hl, hab, hi, hs, hj0, hjn, hn, hr⟩ := hI
  have hn : x.n ≤ ((x.q0.length : Nat) : Int) := hn
  have hq : x.q0.length ≤ x.i + 1 := qle_q hs.1 0
  refine ⟨fun h => ?_, fun h => ?_⟩
  · have h : x.j < x.n := of_decide_eq_true h
    have ht : 0 ≤ at0 x.q0 x.j ∧ at0 x.q0 x.j < 4 := lsOk_q hs 0 _ (mem0 hj0 (show x.j < ((x.q0.length : Nat) : Int) by omega))
    have hw : IntKind.i64.wrap (x.j + 1) = x.j + 1 := wrap_id (by omega) (by omega)
    have hr' : rest 0 x.n.toNat (x.j.toNat + 1) (x.s.wout (bump x.s.out (at0 x.q0 x.j))) = stL l ab (x.i + 1) := by
      rw [← hr, rest_step (c := 0) (n := x.n.toNat) (j := x.j.toNat) (s := x.s) (by omega) (by show x.n.toNat ≤ x.q0.length; omega)]
      have ej : ((x.j.toNat : Nat) : Int) = x.j := by omega
      rw [ej]
      rfl
    have kk := fun (w0 w1 w2 w3 : Int) (e : bump [x.w0, x.w1, x.w2, x.w3] (at0 x.q0 x.j) = [w0, w1, w2, w3]) => to3 (l := l) (ab := ab) (c := 0) (x := x) (M := (l.length - x.i - 1) * 10000 + 1 + (x.n - x.j).toNat) (nn := x.n) (jj := IntKind.i64.wrap (x.j + 1)) (q0 := x.q0) (q1 := x.q1) (q2 := x.q2) (w0 := w0) (w1 := w1) (w2 := w2) (w3 := w3) rfl rfl
      ⟨hl, hab, hi, hs, by rw [hw]; dsimp only; omega, by rw [hw]; dsimp only; omega, hn, by
        rw [hw]
        have e2 : (x.j + 1).toNat = x.j.toNat + 1 := by omega
        rw [e2, ← hr']
        show rest 0 x.n.toNat (x.j.toNat + 1) ⟨x.q0, x.q1, x.q2, [w0, w1, w2, w3]⟩ = rest 0 x.n.toNat (x.j.toNat + 1) ⟨x.q0, x.q1, x.q2, bump [x.w0, x.w1, x.w2, x.w3] (at0 x.q0 x.j)⟩
        rw [e]⟩ (by rw [hw]; omega)
    clear hr hr'
    repeat' (first | apply And.intro | intro _)
    all_goals try simp only [beq_iff_eq, beq_eq_false_iff_ne, ne_eq, decide_eq_true_eq, decide_eq_false_iff_not, Bool.false_eq_true] at *
    all_goals first
      | (clear kk; omega)
      | exact fam0 (kk _ _ _ _ (bump4_3 (by clear kk; omega)))
      | exact fam0 (kk _ _ _ _ (bump4_2 (by clear kk; omega)))
      | exact fam0 (kk _ _ _ _ (bump4_1 (by clear kk; omega)))
      | exact fam0 (kk _ _ _ _ (bump4_0 (by clear kk; omega)))
  · have h : ¬ x.j < x.n := of_decide_eq_false h
    have ej : x.j = x.n := by omega
    rw [ej, rest_end] at hr
    have hx : (⟨List.take ((x.q0.length : Int).toNat - x.n.toNat) (List.drop x.n.toNat x.q0), x.q1, x.q2, [x.w0, x.w1, x.w2, x.w3]⟩ : QS) = x.s.setq 0 ((x.s.q 0).drop x.n.toNat) := by
      rw [take_all]
      rfl
    refine ⟨⟨by omega, hn, Int.le_refl _⟩, to1 (x := x) hl hab hi rfl rfl ?_ (hx.trans hr) (by omega)⟩
    rw [hx]
    exact lsOk_setq hs (by
      have := qle_q hs.1 0
      rw [List.length_drop]
      omega) fun t ht => lsOk_q hs 0 t (List.mem_of_mem_drop ht)
theorem lw_131_ok (hI : I2 l ab 1 x) : Paid (cutVC F (lookC qL) 300 Try.f4 bL (lwF l ab) 13 (c2 l ab 1) x) := by
  refine ⟨?_⟩
  rw [lw_131]
  obtain ⟨hl, hab, hi, hs, he, hco⟩ := hI
  have hal := aL_len l ab x.i
  have hol := oL_len x.i
  have hq : x.q1.length ≤ x.i := qle_q hs.1 1
  have hth : 0 ≤ thL l x.i ∧ thL l x.i < 4 := pk_is _ (by decide) (by decide)
  have hst : abF ab x.i = false → callF (thL l x.i) (woF l x.i) x.s = stL l ab (x.i + 1) := fun h => by rw [stL, if_neg (by rw [h]; decide), ← he]; rfl
  have hpl : (woF l x.i).pl = 1 := hco
  have k1 := fun (h : abF ab x.i = true) => to1 (x := x) (M := (l.length - x.i - 1) * 10000 + 9000) (q0 := x.q0) (q1 := x.q1) (q2 := x.q2) (w0 := x.w0) (w1 := x.w1) (w2 := x.w2) (w3 := x.w3) hl hab hi (aL_hit h hco) (oL_succ x.i).symm (lsOk_mono hs (Nat.le_succ _)) (by rw [stL, if_pos h]; exact he) (by omega)
  have k10 := fun (h : abF ab x.i = false) (hk : kd (at2 l x.i).ki = 10) => to3 (c := 1) (x := x) (M := (l.length - x.i - 1) * 10000 + 9000) (nn := 0) (jj := 0) (q0 := x.q0) (q1 := x.q1 ++ [thL l x.i]) (q2 := x.q2) (w0 := x.w0) (w1 := x.w1) (w2 := x.w2) (w3 := x.w3) (aL_miss h hco) (oL_succ x.i).symm
    ⟨hl, hab, hi, lsOk_setq (c := 1) (lsOk_mono hs (Nat.le_succ _)) (l := x.q1 ++ [thL l x.i]) (by show (x.q1 ++ [thL l x.i]).length ≤ x.i + 1; simp; omega) (fun t ht => by
      rcases List.mem_append.1 ht with ht | ht
      · exact lsOk_q hs 1 t ht
      · rw [List.mem_singleton] at ht; subst ht; exact hth), Int.le_refl _, Int.le_refl _, Int.natCast_nonneg _, by
      rw [← hst h, callF_10 (show (woF l x.i).vl = 10 from hk), hpl]
      exact rest_end⟩ (by omega)
  have k13 := fun (h : abF ab x.i = false) (hk : kd (at2 l x.i).ki = 13) => to3 (c := 1) (x := x) (M := (l.length - x.i - 1) * 10000 + 9000) (nn := if ((x.q1.length : Nat) : Int) < 1 then ((x.q1.length : Nat) : Int) else 1) (jj := 0) (q0 := x.q0) (q1 := x.q1) (q2 := x.q2) (w0 := x.w0) (w1 := x.w1) (w2 := x.w2) (w3 := x.w3) (aL_miss h hco) (oL_succ x.i).symm
    ⟨hl, hab, hi, lsOk_mono hs (Nat.le_succ _), Int.le_refl _, (by dsimp only; split <;> omega), (by show (if ((x.q1.length : Nat) : Int) < 1 then ((x.q1.length : Nat) : Int) else 1) ≤ ((x.q1.length : Nat) : Int); split <;> omega), by
      rw [← hst h, callF_13 (show (woF l x.i).vl = 13 from hk), hpl, wakes_gone]
      refine rest_gone.trans (gone_one ?_)
      show (if ((x.q1.length : Nat) : Int) < 1 then ((x.q1.length : Nat) : Int) else 1).toNat = min 1 x.q1.length
      split <;> omega⟩ (by split <;> omega)
  have k14 := fun (h : abF ab x.i = false) (hk : kd (at2 l x.i).ki = 14) => to3 (c := 1) (x := x) (M := (l.length - x.i - 1) * 10000 + 9000) (nn := ((x.q1.length : Nat) : Int)) (jj := 0) (q0 := x.q0) (q1 := x.q1) (q2 := x.q2) (w0 := x.w0) (w1 := x.w1) (w2 := x.w2) (w3 := x.w3) (aL_miss h hco) (oL_succ x.i).symm
    ⟨hl, hab, hi, lsOk_mono hs (Nat.le_succ _), Int.le_refl _, Int.natCast_nonneg _, Int.le_refl _, by
      rw [← hst h, callF_14 (show (woF l x.i).vl = 14 from hk), hpl, wakes_gone]
      exact rest_gone⟩ (by omega)
  have kds := kd_is (at2 l x.i).ki
  clear hst he
  repeat' (first | apply And.intro | intro _)
  all_goals try simp only [beq_iff_eq, beq_eq_false_iff_ne, ne_eq, decide_eq_true_eq, decide_eq_false_iff_not, Bool.false_eq_true] at *
  all_goals first
    | exact k1 (by rw [ab_hit (by assumption)]; assumption)
    | exact fam1 (k10 (by first | exact ab_out (by assumption) | (rw [ab_hit (by assumption)]; assumption)) (by assumption))
    | exact fam1 (k13 (by first | exact ab_out (by assumption) | (rw [ab_hit (by assumption)]; assumption)) (by assumption))
    | exact fam1 (k14 (by first | exact ab_out (by assumption) | (rw [ab_hit (by assumption)]; assumption)) (by clear k1 k10 k13 k14; omega))
    | (clear k1 k10 k13 k14; simp only [List.length_cons, List.length_nil]; omega)
    | (clear k1 k10 k13 k14; omega)
theorem lw_251_ok (hI : I3 l ab 1 x) : Paid (cutVC F (lookC qL) 300 Try.f4 bL (lwF l ab) 25 (c3 l ab 1) x) := by
  refine ⟨?_⟩
  rw [lw_251]
  obtain ⟨hl, hab, hi, hs, hj0, hjn, hn, hr⟩ := hI
  have hn : x.n ≤ ((x.q1.length : Nat) : Int) := hn
  have hq : x.q1.length ≤ x.i + 1 := qle_q hs.1 1
  refine ⟨fun h => ?_, fun h => ?_⟩
  · have h : x.j < x.n := of_decide_eq_true h
    have ht : 0 ≤ at0 x.q1 x.j ∧ at0 x.q1 x.j < 4 := lsOk_q hs 1 _ (mem0 hj0 (show x.j < ((x.q1.length : Nat) : Int) by omega))
    have hw : IntKind.i64.wrap (x.j + 1) = x.j + 1 := wrap_id (by omega) (by omega)
    have hr' : rest 1 x.n.toNat (x.j.toNat + 1) (x.s.wout (bump x.s.out (at0 x.q1 x.j))) = stL l ab (x.i + 1) := by
      rw [← hr, rest_step (c := 1) (n := x.n.toNat) (j := x.j.toNat) (s := x.s) (by omega) (by show x.n.toNat ≤ x.q1.length; omega)]
      have ej : ((x.j.toNat : Nat) : Int) = x.j := by omega
      rw [ej]
      rfl
    have kk := fun (w0 w1 w2 w3 : Int) (e : bump [x.w0, x.w1, x.w2, x.w3] (at0 x.q1 x.j) = [w0, w1, w2, w3]) => to3 (l := l) (ab := ab) (c := 1) (x := x) (M := (l.length - x.i - 1) * 10000 + 1 + (x.n - x.j).toNat) (nn := x.n) (jj := IntKind.i64.wrap (x.j + 1)) (q0 := x.q0) (q1 := x.q1) (q2 := x.q2) (w0 := w0) (w1 := w1) (w2 := w2) (w3 := w3) rfl rfl
      ⟨hl, hab, hi, hs, by rw [hw]; dsimp only; omega, by rw [hw]; dsimp only; omega, hn, by
        rw [hw]
        have e2 : (x.j + 1).toNat = x.j.toNat + 1 := by omega
        rw [e2, ← hr']
        show rest 1 x.n.toNat (x.j.toNat + 1) ⟨x.q0, x.q1, x.q2, [w0, w1, w2, w3]⟩ = rest 1 x.n.toNat (x.j.toNat + 1) ⟨x.q0, x.q1, x.q2, bump [x.w0, x.w1, x.w2, x.w3] (at0 x.q1 x.j)⟩
        rw [e]⟩ (by rw [hw]; omega)
    clear hr hr'
    repeat' (first | apply And.intro | intro _)
    all_goals try simp only [beq_iff_eq, beq_eq_false_iff_ne, ne_eq, decide_eq_true_eq, decide_eq_false_iff_not, Bool.false_eq_true] at *
    all_goals first
      | (clear kk; omega)
      | exact fam1 (kk _ _ _ _ (bump4_3 (by clear kk; omega)))
      | exact fam1 (kk _ _ _ _ (bump4_2 (by clear kk; omega)))
      | exact fam1 (kk _ _ _ _ (bump4_1 (by clear kk; omega)))
      | exact fam1 (kk _ _ _ _ (bump4_0 (by clear kk; omega)))
  · have h : ¬ x.j < x.n := of_decide_eq_false h
    have ej : x.j = x.n := by omega
    rw [ej, rest_end] at hr
    have hx : (⟨x.q0, List.take ((x.q1.length : Int).toNat - x.n.toNat) (List.drop x.n.toNat x.q1), x.q2, [x.w0, x.w1, x.w2, x.w3]⟩ : QS) = x.s.setq 1 ((x.s.q 1).drop x.n.toNat) := by
      rw [take_all]
      rfl
    refine ⟨⟨by omega, hn, Int.le_refl _⟩, to1 (x := x) hl hab hi rfl rfl ?_ (hx.trans hr) (by omega)⟩
    rw [hx]
    exact lsOk_setq hs (by
      have := qle_q hs.1 1
      rw [List.length_drop]
      omega) fun t ht => lsOk_q hs 1 t (List.mem_of_mem_drop ht)
theorem lw_132_ok (hI : I2 l ab 2 x) : Paid (cutVC F (lookC qL) 300 Try.f4 bL (lwF l ab) 13 (c2 l ab 2) x) := by
  refine ⟨?_⟩
  rw [lw_132]
  obtain ⟨hl, hab, hi, hs, he, hco⟩ := hI
  have hal := aL_len l ab x.i
  have hol := oL_len x.i
  have hq : x.q2.length ≤ x.i := qle_q hs.1 2
  have hth : 0 ≤ thL l x.i ∧ thL l x.i < 4 := pk_is _ (by decide) (by decide)
  have hst : abF ab x.i = false → callF (thL l x.i) (woF l x.i) x.s = stL l ab (x.i + 1) := fun h => by rw [stL, if_neg (by rw [h]; decide), ← he]; rfl
  have hpl : (woF l x.i).pl = 2 := hco
  have k1 := fun (h : abF ab x.i = true) => to1 (x := x) (M := (l.length - x.i - 1) * 10000 + 9000) (q0 := x.q0) (q1 := x.q1) (q2 := x.q2) (w0 := x.w0) (w1 := x.w1) (w2 := x.w2) (w3 := x.w3) hl hab hi (aL_hit h hco) (oL_succ x.i).symm (lsOk_mono hs (Nat.le_succ _)) (by rw [stL, if_pos h]; exact he) (by omega)
  have k10 := fun (h : abF ab x.i = false) (hk : kd (at2 l x.i).ki = 10) => to3 (c := 2) (x := x) (M := (l.length - x.i - 1) * 10000 + 9000) (nn := 0) (jj := 0) (q0 := x.q0) (q1 := x.q1) (q2 := x.q2 ++ [thL l x.i]) (w0 := x.w0) (w1 := x.w1) (w2 := x.w2) (w3 := x.w3) (aL_miss h hco) (oL_succ x.i).symm
    ⟨hl, hab, hi, lsOk_setq (c := 2) (lsOk_mono hs (Nat.le_succ _)) (l := x.q2 ++ [thL l x.i]) (by show (x.q2 ++ [thL l x.i]).length ≤ x.i + 1; simp; omega) (fun t ht => by
      rcases List.mem_append.1 ht with ht | ht
      · exact lsOk_q hs 2 t ht
      · rw [List.mem_singleton] at ht; subst ht; exact hth), Int.le_refl _, Int.le_refl _, Int.natCast_nonneg _, by
      rw [← hst h, callF_10 (show (woF l x.i).vl = 10 from hk), hpl]
      exact rest_end⟩ (by omega)
  have k13 := fun (h : abF ab x.i = false) (hk : kd (at2 l x.i).ki = 13) => to3 (c := 2) (x := x) (M := (l.length - x.i - 1) * 10000 + 9000) (nn := if ((x.q2.length : Nat) : Int) < 1 then ((x.q2.length : Nat) : Int) else 1) (jj := 0) (q0 := x.q0) (q1 := x.q1) (q2 := x.q2) (w0 := x.w0) (w1 := x.w1) (w2 := x.w2) (w3 := x.w3) (aL_miss h hco) (oL_succ x.i).symm
    ⟨hl, hab, hi, lsOk_mono hs (Nat.le_succ _), Int.le_refl _, (by dsimp only; split <;> omega), (by show (if ((x.q2.length : Nat) : Int) < 1 then ((x.q2.length : Nat) : Int) else 1) ≤ ((x.q2.length : Nat) : Int); split <;> omega), by
      rw [← hst h, callF_13 (show (woF l x.i).vl = 13 from hk), hpl, wakes_gone]
      refine rest_gone.trans (gone_one ?_)
      show (if ((x.q2.length : Nat) : Int) < 1 then ((x.q2.length : Nat) : Int) else 1).toNat = min 1 x.q2.length
      split <;> omega⟩ (by split <;> omega)
  have k14 := fun (h : abF ab x.i = false) (hk : kd (at2 l x.i).ki = 14) => to3 (c := 2) (x := x) (M := (l.length - x.i - 1) * 10000 + 9000) (nn := ((x.q2.length : Nat) : Int)) (jj := 0) (q0 := x.q0) (q1 := x.q1) (q2 := x.q2) (w0 := x.w0) (w1 := x.w1) (w2 := x.w2) (w3 := x.w3) (aL_miss h hco) (oL_succ x.i).symm
    ⟨hl, hab, hi, lsOk_mono hs (Nat.le_succ _), Int.le_refl _, Int.natCast_nonneg _, Int.le_refl _, by
      rw [← hst h, callF_14 (show (woF l x.i).vl = 14 from hk), hpl, wakes_gone]
      exact rest_gone⟩ (by omega)
  have kds := kd_is (at2 l x.i).ki
  clear hst he
  repeat' (first | apply And.intro | intro _)
  all_goals try simp only [beq_iff_eq, beq_eq_false_iff_ne, ne_eq, decide_eq_true_eq, decide_eq_false_iff_not, Bool.false_eq_true] at *
  all_goals first
    | exact k1 (by rw [ab_hit (by assumption)]; assumption)
    | exact fam2 (k10 (by first | exact ab_out (by assumption) | (rw [ab_hit (by assumption)]; assumption)) (by assumption))
    | exact fam2 (k13 (by first | exact ab_out (by assumption) | (rw [ab_hit (by assumption)]; assumption)) (by assumption))
    | exact fam2 (k14 (by first | exact ab_out (by assumption) | (rw [ab_hit (by assumption)]; assumption)) (by clear k1 k10 k13 k14; omega))
    | (clear k1 k10 k13 k14; simp only [List.length_cons, List.length_nil]; omega)
    | (clear k1 k10 k13 k14; omega)
theorem lw_252_ok (hI : I3 l ab 2 x) : Paid (cutVC F (lookC qL) 300 Try.f4 bL (lwF l ab) 25 (c3 l ab 2) x) := by
  refine ⟨?_⟩
  rw [lw_252]
  obtain ⟨hl, hab, hi, hs, hj0, hjn, hn, hr⟩ := hI
  have hn : x.n ≤ ((x.q2.length : Nat) : Int) := hn
  have hq : x.q2.length ≤ x.i + 1 := qle_q hs.1 2
  refine ⟨fun h => ?_, fun h => ?_⟩
  · have h : x.j < x.n := of_decide_eq_true h
    have ht : 0 ≤ at0 x.q2 x.j ∧ at0 x.q2 x.j < 4 := lsOk_q hs 2 _ (mem0 hj0 (show x.j < ((x.q2.length : Nat) : Int) by omega))
    have hw : IntKind.i64.wrap (x.j + 1) = x.j + 1 := wrap_id (by omega) (by omega)
    have hr' : rest 2 x.n.toNat (x.j.toNat + 1) (x.s.wout (bump x.s.out (at0 x.q2 x.j))) = stL l ab (x.i + 1) := by
      rw [← hr, rest_step (c := 2) (n := x.n.toNat) (j := x.j.toNat) (s := x.s) (by omega) (by show x.n.toNat ≤ x.q2.length; omega)]
      have ej : ((x.j.toNat : Nat) : Int) = x.j := by omega
      rw [ej]
      rfl
    have kk := fun (w0 w1 w2 w3 : Int) (e : bump [x.w0, x.w1, x.w2, x.w3] (at0 x.q2 x.j) = [w0, w1, w2, w3]) => to3 (l := l) (ab := ab) (c := 2) (x := x) (M := (l.length - x.i - 1) * 10000 + 1 + (x.n - x.j).toNat) (nn := x.n) (jj := IntKind.i64.wrap (x.j + 1)) (q0 := x.q0) (q1 := x.q1) (q2 := x.q2) (w0 := w0) (w1 := w1) (w2 := w2) (w3 := w3) rfl rfl
      ⟨hl, hab, hi, hs, by rw [hw]; dsimp only; omega, by rw [hw]; dsimp only; omega, hn, by
        rw [hw]
        have e2 : (x.j + 1).toNat = x.j.toNat + 1 := by omega
        rw [e2, ← hr']
        show rest 2 x.n.toNat (x.j.toNat + 1) ⟨x.q0, x.q1, x.q2, [w0, w1, w2, w3]⟩ = rest 2 x.n.toNat (x.j.toNat + 1) ⟨x.q0, x.q1, x.q2, bump [x.w0, x.w1, x.w2, x.w3] (at0 x.q2 x.j)⟩
        rw [e]⟩ (by rw [hw]; omega)
    clear hr hr'
    repeat' (first | apply And.intro | intro _)
    all_goals try simp only [beq_iff_eq, beq_eq_false_iff_ne, ne_eq, decide_eq_true_eq, decide_eq_false_iff_not, Bool.false_eq_true] at *
    all_goals first
      | (clear kk; omega)
      | exact fam2 (kk _ _ _ _ (bump4_3 (by clear kk; omega)))
      | exact fam2 (kk _ _ _ _ (bump4_2 (by clear kk; omega)))
      | exact fam2 (kk _ _ _ _ (bump4_1 (by clear kk; omega)))
      | exact fam2 (kk _ _ _ _ (bump4_0 (by clear kk; omega)))
  · have h : ¬ x.j < x.n := of_decide_eq_false h
    have ej : x.j = x.n := by omega
    rw [ej, rest_end] at hr
    have hx : (⟨x.q0, x.q1, List.take ((x.q2.length : Int).toNat - x.n.toNat) (List.drop x.n.toNat x.q2), [x.w0, x.w1, x.w2, x.w3]⟩ : QS) = x.s.setq 2 ((x.s.q 2).drop x.n.toNat) := by
      rw [take_all]
      rfl
    refine ⟨⟨by omega, hn, Int.le_refl _⟩, to1 (x := x) hl hab hi rfl rfl ?_ (hx.trans hr) (by omega)⟩
    rw [hx]
    exact lsOk_setq hs (by
      have := qle_q hs.1 2
      rw [List.length_drop]
      omega) fun t ht => lsOk_q hs 2 t (List.mem_of_mem_drop ht)
end
theorem qLOk : CtrOk F.S (lookC qL) := lookC_ok fun p h => by
  simp only [qL, List.mem_cons, List.not_mem_nil, or_false] at h
  rcases h with rfl | rfl | rfl
  · exact toldCtr_ok rfl
  · exact wkOk
  · exact itOk
theorem lw_run (l : List Cl) (ab : List Bool) {av : List AVal} (hA : Ers (C := cod) (away []) [.tl (T := T) 2 l, .tl (T := T) 1 ab] av) : ∃ m H', runA S m 0 4 av [] = some (.bool true, H') :=
  law_paid (F := F) (fn := Try.f4) (body := bL) (args := [.tl (T := T) 2 l, .tl (T := T) 1 ab]) codOk noExt hookLow qLOk Try.func4 rfl rfl rfl 300 (lwF l ab).cuts (show 2 ≤ Try.f4.ntmps by decide) (show Try.f4.ntmps ≤ 512 by decide) (by kernel_rfl) (lw_e_ok l ab) (fun p hm s hI => by
    simp only [lwF, List.mem_cons, List.not_mem_nil, or_false] at hm
    rcases hm with rfl | rfl | rfl | rfl | rfl | rfl | rfl
    · exact lw_8_ok l ab s hI
    · exact lw_130_ok l ab s hI
    · exact lw_131_ok l ab s hI
    · exact lw_132_ok l ab s hI
    · exact lw_250_ok l ab s hI
    · exact lw_251_ok l ab s hI
    · exact lw_252_ok l ab s hI) hA
end Go.Proofs.Ytomlcdalhihnaaa

/- Tl2Undo: its families, one step each. -/
import Derived.Test.YtmjjljngaefpaaaUf
namespace Go.Proofs.Ytmjjljngaefpaaa
open Go.RowKit Go.Am Go.Sy
set_option linter.unusedVariables false
set_option linter.unusedSimpArgs false

theorem un_k11 (l p : List Op) (cl w e : Int) (n : Nat) (i : Nat) (rd : List Wo) (rs : List Wo) (ws : List Wo) (xi : Nat) (a : Int) (c : Int) (bk : Int) (value : Int) (steps : Int) (asked : Int) (W : List Int) (rows :
 List Int) : Go.Sy.Tree.holds (cutS F (lookC (lU p)) 3000 Try.f4 b4 (fU l p cl w e) selU 16 (k11 p w e) ⟨n, i, rd, rs, ws, xi, a, c, bk, value, steps, asked, W, rows⟩) = ( (decide ((↑n : Int) < IntKind.i64.wrap
 ((IntKind.u64.wrap w).tmod 60)) = true → sizeD.pre (mp1, ()) ∧ (decide ((↑(wR (0 : Int) (2 : Int) rows).length : Int) < 34) = true → (decide ((↑i : Int) > (↑p.length : Int)) = true → ∃ (s : US), w = w ∧ e = e ∧ Z2 (wR (0
 : Int) (2 : Int) rows = s.W ∧ steps = s.steps ∧ Z7 (rs = s.rs ∧ Q 32 ∧ ws = s.ws ∧ filtT ws = filtT s.ws ∧ asked = s.asked ∧ Qn ∧ AVal.int IntKind.i64 (1 : Int) = AVal.int IntKind.i64 (2 : Int) ∧ AVal.int IntKind.i64 (4
 : Int) = AVal.int IntKind.i64 (0 : Int) ∧ value = s.value ∧ p = p ∧ (↑i : Int) = (↑s.i : Int) ∧ constA (Value.bool false) = AVal.bool false ∧ Qc 1 ∧ rd = s.rd ∧ IntKind.i64.wrap ((↑n : Int) + 1) = (↑s.n : Int) ∧ (sureI p
 s ∧ (fun (s : US) => True) s) ∧ (1000000 : Nat) - s.n < 1000000 - n ∧ True))) ∧ (decide ((↑i : Int) > (↑p.length : Int)) = false → (decide ((↑i : Int) > 0) = true → ((0 : Int) ≤ IntKind.i64.wrap ((↑i : Int) - 1) ∧
 IntKind.i64.wrap ((↑i : Int) - 1) < (↑p.length : Int)) ∧ ((0 : Int) ≤ IntKind.i64.wrap ((↑i : Int) - 1) ∧ IntKind.i64.wrap ((↑i : Int) - 1) < (↑p.length : Int)) ∧ (((at2 p (IntKind.i64.wrap ((↑i : Int) - 1))).kd == 0) =
 true → ((0 : Int) ≤ IntKind.i64.wrap ((↑i : Int) - 1) ∧ IntKind.i64.wrap ((↑i : Int) - 1) < (↑p.length : Int)) ∧ ((0 : Int) ≤ IntKind.i64.wrap ((↑i : Int) - 1) ∧ IntKind.i64.wrap ((↑i : Int) - 1) < (↑p.length : Int)) ∧
 (rd.length + [Wo.mk (at2 p (IntKind.i64.wrap ((↑i : Int) - 1))).pl value].length) * 16 ≤ 140737488355328 ∧ Stuck "sel: none") ∧ (((at2 p (IntKind.i64.wrap ((↑i : Int) - 1))).kd == 0) = false → Stuck "sel: none")) ∧
 (decide ((↑i : Int) > 0) = false → Stuck "sel: none"))) ∧ (decide ((↑(wR (0 : Int) (2 : Int) rows).length : Int) < 34) = false → mayD.pre (mp1, ()) ∧ sizeD.pre (mp1, ()) ∧ (decide ((↑(wR (0 : Int) (2 : Int) rows).length
 : Int) < 34) = true → ∃ (s : US), w = w ∧ e = e ∧ Z2 (wR (0 : Int) (2 : Int) rows = wR (0 : Int) (2 : Int) s.rows ∧ steps = s.steps ∧ Z8 (c = s.c ∧ Z9 (rs = s.rs ∧ Q 32 ∧ ws = s.ws ∧ filtT ws = filtT s.ws ∧ asked =
 s.asked ∧ Z28 (value = s.value ∧ Z47 (rows = s.rows ∧ takT rows = takT s.rows ∧ Qb true ∧ p = p ∧ (↑i : Int) = (↑s.i : Int) ∧ Z16 (rd = s.rd ∧ IntKind.i64.wrap ((↑n : Int) + 1) = (↑s.n : Int) ∧ (lateI p s ∧ (fun (s : US)
 => True) s) ∧ (1000000 : Nat) - s.n < 1000000 - n ∧ True))))))) ∧ (decide ((↑(wR (0 : Int) (2 : Int) rows).length : Int) < 34) = false → clockD.pre (mp1, ()) ∧ badD.pre (Mw.mk (wR (0 : Int) (2 : Int) rows), (0 : Int),
 ()) ∧ ((0 : Int) ≤ 0 ∧ (0 : Int) < (↑(wR (0 : Int) (2 : Int) rows).length : Int)) ∧ ((0 : Int) ≤ 0 ∧ (0 : Int) < (↑(wR (0 : Int) (2 : Int) rows).length : Int)) ∧ ((at0 (wR (0 : Int) (2 : Int) rows) (0 : Int) == 0) = true
 → ((0 : Int) ≤ 0 ∧ (0 : Int) < (↑(wR (0 : Int) (2 : Int) rows).length : Int)) ∧ ((0 : Int) ≤ 0 ∧ (0 : Int) < (↑(wR (0 : Int) (2 : Int) rows).length : Int)) ∧ ((at0 (wR (0 : Int) (2 : Int) rows) (0 : Int) == 0) = true →
 (decide ((0 : Int) < (↑rs.length : Int)) = true → ∃ (s : US), w = w ∧ e = e ∧ Z2 ((wR (0 : Int) (2 : Int) rows).set (0 : Nat) (1 : Int) = wR (1 : Int) (2 : Int) s.rows ∧ IntKind.i64.wrap (steps + 1) = s.steps ∧ Z8 (c =
 s.c ∧ Z9 (rs = s.rs ∧ Q 32 ∧ ws = s.ws ∧ filtT ws = filtT s.ws ∧ asked = s.asked ∧ Z27 ((0 : Int) = (↑s.xi : Int) ∧ value = s.value ∧ Z29 ((2 : Int) = s.bk ∧ rows = s.rows ∧ takT rows = takT s.rows ∧ Qb true ∧ p = p ∧
 (↑i : Int) = (↑s.i : Int) ∧ Z16 (rd = s.rd ∧ IntKind.i64.wrap ((↑n : Int) + 1) = (↑s.n : Int) ∧ (lateI p s ∧ (fun (s : US) => s.xi < s.rs.length) s) ∧ (1000000 : Nat) - s.n < 1000000 - n ∧ True))))))) ∧ (decide ((0 :
 Int) < (↑rs.length : Int)) = false → (decide ((0 : Int) < (↑ws.length : Int)) = true → ∃ (s : US), w = w ∧ e = e ∧ Z2 ((wR (0 : Int) (2 : Int) rows).set (0 : Nat) (1 : Int) = s.W ∧ IntKind.i64.wrap (steps + 1) = s.steps
 ∧ Z7 (rs = s.rs ∧ Q 32 ∧ ws = s.ws ∧ filtT ws = filtT s.ws ∧ asked = s.asked ∧ Z22 ((0 : Int) = (↑s.xi : Int) ∧ value = s.value ∧ Q 1 ∧ rows = s.rows ∧ p = p ∧ (↑i : Int) = (↑s.i : Int) ∧ Z16 (rd = s.rd ∧
 IntKind.i64.wrap ((↑n : Int) + 1) = (↑s.n : Int) ∧ (sureI p s ∧ (fun (s : US) => s.xi < s.ws.length ∧ rowIn s) s) ∧ (1000000 : Nat) - s.n < 1000000 - n ∧ True))))) ∧ (decide ((0 : Int) < (↑ws.length : Int)) = false →
 (decide ((0 : Int) ≥ (↑rows.length : Int)) = true → ∃ (s : US), w = w ∧ e = e ∧ Z2 ((wR (0 : Int) (2 : Int) rows).set (0 : Nat) (1 : Int) = s.W ∧ IntKind.i64.wrap (steps + 1) = s.steps ∧ Z7 (rs = s.rs ∧ Q 32 ∧ ws = s.ws
 ∧ filtT ws = filtT s.ws ∧ asked = s.asked ∧ Z23 (value = s.value ∧ (1 : Int) = s.a ∧ p = p ∧ (↑i : Int) = (↑s.i : Int) ∧ Z16 (rd = s.rd ∧ IntKind.i64.wrap ((↑n : Int) + 1) = (↑s.n : Int) ∧ (sureI p s ∧ (fun (s : US) =>
 True) s) ∧ (1000000 : Nat) - s.n < 1000000 - n ∧ True))))) ∧ (decide ((0 : Int) ≥ (↑rows.length : Int)) = false → ∃ (s : US), w = w ∧ e = e ∧ Z2 ((wR (0 : Int) (2 : Int) rows).set (0 : Nat) (1 : Int) = s.W ∧
 IntKind.i64.wrap (steps + 1) = s.steps ∧ Z7 (rs = s.rs ∧ Q 32 ∧ ws = s.ws ∧ filtT ws = filtT s.ws ∧ asked = s.asked ∧ Z26 ((0 : Int) = (↑s.xi : Int) ∧ value = s.value ∧ Q 1 ∧ rows = s.rows ∧ p = p ∧ (↑i : Int) = (↑s.i :
 Int) ∧ Z16 (rd = s.rd ∧ IntKind.i64.wrap ((↑n : Int) + 1) = (↑s.n : Int) ∧ (sureI p s ∧ (fun (s : US) => s.xi < s.rows.length ∧ rowIn s) s) ∧ (1000000 : Nat) - s.n < 1000000 - n ∧ True)))))))) ∧ ((at0 (wR (0 : Int) (2 :
 Int) rows) (0 : Int) == 0) = false → (decide (at0 (wR (0 : Int) (2 : Int) rows) (0 : Int) > 1000) = true → (decide ((0 : Int) < (↑(takT rows).length : Int)) = true → Stuck "sel: none") ∧ (decide ((0 : Int) < (↑(takT
 rows).length : Int)) = false → Stuck "sel: none")) ∧ (decide (at0 (wR (0 : Int) (2 : Int) rows) (0 : Int) > 1000) = false → (decide ((0 : Int) < (↑rs.length : Int)) = true → ∃ (s : US), w = w ∧ e = e ∧ Z2 ((wR (0 : Int)
 (2 : Int) rows).set (0 : Nat) (1 : Int) = wR (1 : Int) (2 : Int) s.rows ∧ IntKind.i64.wrap (steps + 1) = s.steps ∧ Z8 (c = s.c ∧ Z9 (rs = s.rs ∧ Q 32 ∧ ws = s.ws ∧ filtT ws = filtT s.ws ∧ asked = s.asked ∧ Z27 ((0 : Int)
 = (↑s.xi : Int) ∧ value = s.value ∧ Q 0 ∧ AVal.int IntKind.i64 (at0 (wR (0 : Int) (2 : Int) rows) (0 : Int)) = AVal.int IntKind.i64 (1 : Int) ∧ (2 : Int) = s.bk ∧ rows = s.rows ∧ takT rows = takT s.rows ∧ Qb true ∧ p = p
 ∧ (↑i : Int) = (↑s.i : Int) ∧ Z16 (rd = s.rd ∧ IntKind.i64.wrap ((↑n : Int) + 1) = (↑s.n : Int) ∧ (lateI p s ∧ (fun (s : US) => s.xi < s.rs.length) s) ∧ (1000000 : Nat) - s.n < 1000000 - n ∧ True)))))) ∧ (decide ((0 :
 Int) < (↑rs.length : Int)) = false → (decide ((0 : Int) < (↑ws.length : Int)) = true → ∃ (s : US), w = w ∧ e = e ∧ Z2 ((wR (0 : Int) (2 : Int) rows).set (0 : Nat) (1 : Int) = s.W ∧ IntKind.i64.wrap (steps + 1) = s.steps
 ∧ Z7 (rs = s.rs ∧ Q 32 ∧ ws = s.ws ∧ filtT ws = filtT s.ws ∧ asked = s.asked ∧ Z22 ((0 : Int) = (↑s.xi : Int) ∧ value = s.value ∧ AVal.int IntKind.i64 (at0 (wR (0 : Int) (2 : Int) rows) (0 : Int)) = AVal.int IntKind.i64
 (1 : Int) ∧ rows = s.rows ∧ p = p ∧ (↑i : Int) = (↑s.i : Int) ∧ Z16 (rd = s.rd ∧ IntKind.i64.wrap ((↑n : Int) + 1) = (↑s.n : Int) ∧ (sureI p s ∧ (fun (s : US) => s.xi < s.ws.length ∧ rowIn s) s) ∧ (1000000 : Nat) - s.n <
 1000000 - n ∧ True))))) ∧ (decide ((0 : Int) < (↑ws.length : Int)) = false → (decide ((0 : Int) ≥ (↑rows.length : Int)) = true → ∃ (s : US), w = w ∧ e = e ∧ Z2 ((wR (0 : Int) (2 : Int) rows).set (0 : Nat) (1 : Int) = s.W
 ∧ IntKind.i64.wrap (steps + 1) = s.steps ∧ Z7 (rs = s.rs ∧ Q 32 ∧ ws = s.ws ∧ filtT ws = filtT s.ws ∧ asked = s.asked ∧ Z23 (value = s.value ∧ at0 (wR (0 : Int) (2 : Int) rows) (0 : Int) = s.a ∧ p = p ∧ (↑i : Int) =
 (↑s.i : Int) ∧ Z16 (rd = s.rd ∧ IntKind.i64.wrap ((↑n : Int) + 1) = (↑s.n : Int) ∧ (sureI p s ∧ (fun (s : US) => True) s) ∧ (1000000 : Nat) - s.n < 1000000 - n ∧ True))))) ∧ (decide ((0 : Int) ≥ (↑rows.length : Int)) =
 false → ∃ (s : US), w = w ∧ e = e ∧ Z2 ((wR (0 : Int) (2 : Int) rows).set (0 : Nat) (1 : Int) = s.W ∧ IntKind.i64.wrap (steps + 1) = s.steps ∧ Z7 (rs = s.rs ∧ Q 32 ∧ ws = s.ws ∧ filtT ws = filtT s.ws ∧ asked = s.asked ∧
 Z26 ((0 : Int) = (↑s.xi : Int) ∧ value = s.value ∧ AVal.int IntKind.i64 (at0 (wR (0 : Int) (2 : Int) rows) (0 : Int)) = AVal.int IntKind.i64 (1 : Int) ∧ rows = s.rows ∧ p = p ∧ (↑i : Int) = (↑s.i : Int) ∧ Z16 (rd = s.rd
 ∧ IntKind.i64.wrap ((↑n : Int) + 1) = (↑s.n : Int) ∧ (sureI p s ∧ (fun (s : US) => s.xi < s.rows.length ∧ rowIn s) s) ∧ (1000000 : Nat) - s.n < 1000000 - n ∧ True)))))))))) ∧ ((at0 (wR (0 : Int) (2 : Int) rows) (0 : Int)
 == 0) = false → ((at0 (wR (0 : Int) (2 : Int) rows) (0 : Int) == 0) = true → (decide ((0 : Int) < (↑rs.length : Int)) = true → ∃ (s : US), w = w ∧ e = e ∧ Z2 (wR (0 : Int) (2 : Int) rows = wR (1 : Int) (2 : Int) s.rows ∧
 IntKind.i64.wrap (steps + 1) = s.steps ∧ Z8 (c = s.c ∧ Z9 (rs = s.rs ∧ Q 32 ∧ ws = s.ws ∧ filtT ws = filtT s.ws ∧ asked = s.asked ∧ Z27 ((0 : Int) = (↑s.xi : Int) ∧ value = s.value ∧ Z29 ((2 : Int) = s.bk ∧ rows = s.rows
 ∧ takT rows = takT s.rows ∧ Qb true ∧ p = p ∧ (↑i : Int) = (↑s.i : Int) ∧ Z16 (rd = s.rd ∧ IntKind.i64.wrap ((↑n : Int) + 1) = (↑s.n : Int) ∧ (lateI p s ∧ (fun (s : US) => s.xi < s.rs.length) s) ∧ (1000000 : Nat) - s.n <
 1000000 - n ∧ True))))))) ∧ (decide ((0 : Int) < (↑rs.length : Int)) = false → (decide ((0 : Int) < (↑ws.length : Int)) = true → ∃ (s : US), w = w ∧ e = e ∧ Z2 (wR (0 : Int) (2 : Int) rows = s.W ∧ IntKind.i64.wrap (steps
 + 1) = s.steps ∧ Z7 (rs = s.rs ∧ Q 32 ∧ ws = s.ws ∧ filtT ws = filtT s.ws ∧ asked = s.asked ∧ Z22 ((0 : Int) = (↑s.xi : Int) ∧ value = s.value ∧ Q 1 ∧ rows = s.rows ∧ p = p ∧ (↑i : Int) = (↑s.i : Int) ∧ Z16 (rd = s.rd ∧
 IntKind.i64.wrap ((↑n : Int) + 1) = (↑s.n : Int) ∧ (sureI p s ∧ (fun (s : US) => s.xi < s.ws.length ∧ rowIn s) s) ∧ (1000000 : Nat) - s.n < 1000000 - n ∧ True))))) ∧ (decide ((0 : Int) < (↑ws.length : Int)) = false →
 (decide ((0 : Int) ≥ (↑rows.length : Int)) = true → ∃ (s : US), w = w ∧ e = e ∧ Z2 (wR (0 : Int) (2 : Int) rows = s.W ∧ IntKind.i64.wrap (steps + 1) = s.steps ∧ Z7 (rs = s.rs ∧ Q 32 ∧ ws = s.ws ∧ filtT ws = filtT s.ws ∧
 asked = s.asked ∧ Z23 (value = s.value ∧ (1 : Int) = s.a ∧ p = p ∧ (↑i : Int) = (↑s.i : Int) ∧ Z16 (rd = s.rd ∧ IntKind.i64.wrap ((↑n : Int) + 1) = (↑s.n : Int) ∧ (sureI p s ∧ (fun (s : US) => True) s) ∧ (1000000 : Nat)
 - s.n < 1000000 - n ∧ True))))) ∧ (decide ((0 : Int) ≥ (↑rows.length : Int)) = false → ∃ (s : US), w = w ∧ e = e ∧ Z2 (wR (0 : Int) (2 : Int) rows = s.W ∧ IntKind.i64.wrap (steps + 1) = s.steps ∧ Z7 (rs = s.rs ∧ Q 32 ∧
 ws = s.ws ∧ filtT ws = filtT s.ws ∧ asked = s.asked ∧ Z26 ((0 : Int) = (↑s.xi : Int) ∧ value = s.value ∧ Q 1 ∧ rows = s.rows ∧ p = p ∧ (↑i : Int) = (↑s.i : Int) ∧ Z16 (rd = s.rd ∧ IntKind.i64.wrap ((↑n : Int) + 1) =
 (↑s.n : Int) ∧ (sureI p s ∧ (fun (s : US) => s.xi < s.rows.length ∧ rowIn s) s) ∧ (1000000 : Nat) - s.n < 1000000 - n ∧ True)))))))) ∧ ((at0 (wR (0 : Int) (2 : Int) rows) (0 : Int) == 0) = false → (decide (at0 (wR (0 :
 Int) (2 : Int) rows) (0 : Int) > 1000) = true → (decide ((0 : Int) < (↑(takT rows).length : Int)) = true → Stuck "sel: none") ∧ (decide ((0 : Int) < (↑(takT rows).length : Int)) = false → Stuck "sel: none")) ∧ (decide
 (at0 (wR (0 : Int) (2 : Int) rows) (0 : Int) > 1000) = false → (decide ((0 : Int) < (↑rs.length : Int)) = true → ∃ (s : US), w = w ∧ e = e ∧ Z2 (wR (0 : Int) (2 : Int) rows = wR (1 : Int) (2 : Int) s.rows ∧
 IntKind.i64.wrap (steps + 1) = s.steps ∧ Z8 (c = s.c ∧ Z9 (rs = s.rs ∧ Q 32 ∧ ws = s.ws ∧ filtT ws = filtT s.ws ∧ asked = s.asked ∧ Z27 ((0 : Int) = (↑s.xi : Int) ∧ value = s.value ∧ Q 0 ∧ AVal.int IntKind.i64 (at0 (wR
 (0 : Int) (2 : Int) rows) (0 : Int)) = AVal.int IntKind.i64 (1 : Int) ∧ (2 : Int) = s.bk ∧ rows = s.rows ∧ takT rows = takT s.rows ∧ Qb true ∧ p = p ∧ (↑i : Int) = (↑s.i : Int) ∧ Z16 (rd = s.rd ∧ IntKind.i64.wrap ((↑n :
 Int) + 1) = (↑s.n : Int) ∧ (lateI p s ∧ (fun (s : US) => s.xi < s.rs.length) s) ∧ (1000000 : Nat) - s.n < 1000000 - n ∧ True)))))) ∧ (decide ((0 : Int) < (↑rs.length : Int)) = false → (decide ((0 : Int) < (↑ws.length :
 Int)) = true → ∃ (s : US), w = w ∧ e = e ∧ Z2 (wR (0 : Int) (2 : Int) rows = s.W ∧ IntKind.i64.wrap (steps + 1) = s.steps ∧ Z7 (rs = s.rs ∧ Q 32 ∧ ws = s.ws ∧ filtT ws = filtT s.ws ∧ asked = s.asked ∧ Z22 ((0 : Int) =
 (↑s.xi : Int) ∧ value = s.value ∧ AVal.int IntKind.i64 (at0 (wR (0 : Int) (2 : Int) rows) (0 : Int)) = AVal.int IntKind.i64 (1 : Int) ∧ rows = s.rows ∧ p = p ∧ (↑i : Int) = (↑s.i : Int) ∧ Z16 (rd = s.rd ∧
 IntKind.i64.wrap ((↑n : Int) + 1) = (↑s.n : Int) ∧ (sureI p s ∧ (fun (s : US) => s.xi < s.ws.length ∧ rowIn s) s) ∧ (1000000 : Nat) - s.n < 1000000 - n ∧ True))))) ∧ (decide ((0 : Int) < (↑ws.length : Int)) = false →
 (decide ((0 : Int) ≥ (↑rows.length : Int)) = true → ∃ (s : US), w = w ∧ e = e ∧ Z2 (wR (0 : Int) (2 : Int) rows = s.W ∧ IntKind.i64.wrap (steps + 1) = s.steps ∧ Z7 (rs = s.rs ∧ Q 32 ∧ ws = s.ws ∧ filtT ws = filtT s.ws ∧
 asked = s.asked ∧ Z23 (value = s.value ∧ at0 (wR (0 : Int) (2 : Int) rows) (0 : Int) = s.a ∧ p = p ∧ (↑i : Int) = (↑s.i : Int) ∧ Z16 (rd = s.rd ∧ IntKind.i64.wrap ((↑n : Int) + 1) = (↑s.n : Int) ∧ (sureI p s ∧ (fun (s :
 US) => True) s) ∧ (1000000 : Nat) - s.n < 1000000 - n ∧ True))))) ∧ (decide ((0 : Int) ≥ (↑rows.length : Int)) = false → ∃ (s : US), w = w ∧ e = e ∧ Z2 (wR (0 : Int) (2 : Int) rows = s.W ∧ IntKind.i64.wrap (steps + 1) =
 s.steps ∧ Z7 (rs = s.rs ∧ Q 32 ∧ ws = s.ws ∧ filtT ws = filtT s.ws ∧ asked = s.asked ∧ Z26 ((0 : Int) = (↑s.xi : Int) ∧ value = s.value ∧ AVal.int IntKind.i64 (at0 (wR (0 : Int) (2 : Int) rows) (0 : Int)) = AVal.int
 IntKind.i64 (1 : Int) ∧ rows = s.rows ∧ p = p ∧ (↑i : Int) = (↑s.i : Int) ∧ Z16 (rd = s.rd ∧ IntKind.i64.wrap ((↑n : Int) + 1) = (↑s.n : Int) ∧ (sureI p s ∧ (fun (s : US) => s.xi < s.rows.length ∧ rowIn s) s) ∧ (1000000
 : Nat) - s.n < 1000000 - n ∧ True))))))))))))) ∧ (decide ((↑n : Int) < IntKind.i64.wrap ((IntKind.u64.wrap w).tmod 60)) = false → (decide ((0 : Int) < (↑(takT rows).length : Int)) = true → (((↑i : Int) == 0) = true → ∃
 (s : DS), Z2 (wR (0 : Int) (2 : Int) rows = wR s.ck (2 : Int) (List.drop s.xi s.T) ∧ steps = s.steps ∧ Z25 ((0 : Int) = (↑s.xi : Int) ∧ IntKind.i64.wrap ((1 : Int) + IntKind.i64.wrap ((IntKind.u64.wrap e).tmod 6)) = s.cz
 ∧ Qc 0 ∧ takT rows = takT s.T ∧ Qb true ∧ IntKind.i64.wrap ((1 : Int) + IntKind.i64.wrap ((IntKind.u64.wrap e).tmod 6)) = s.cz ∧ Qc 0 ∧ (0 : Int) = (↑s.n : Int) ∧ (s.T ∈ L8 ∧ s.xi ≤ s.T.length ∧ s.n + (s.T.length - s.xi)
 + 1 ≤ 60) ∧ (1000 : Nat) - s.n < 1000000 - n ∧ True))) ∧ (((↑i : Int) == 0) = false → ∃ (s : DS), Z2 (wR (0 : Int) (2 : Int) rows = wR s.ck (2 : Int) (List.drop s.xi s.T) ∧ steps = s.steps ∧ Z25 ((0 : Int) = (↑s.xi :
 Int) ∧ IntKind.i64.wrap ((1 : Int) + IntKind.i64.wrap ((IntKind.u64.wrap e).tmod 6)) = s.cz ∧ Qc 0 ∧ takT rows = takT s.T ∧ Qb true ∧ IntKind.i64.wrap ((1 : Int) + IntKind.i64.wrap ((IntKind.u64.wrap e).tmod 6)) = s.cz ∧
 Qc 0 ∧ (0 : Int) = (↑s.n : Int) ∧ (s.T ∈ L8 ∧ s.xi ≤ s.T.length ∧ s.n + (s.T.length - s.xi) + 1 ≤ 60) ∧ (1000 : Nat) - s.n < 1000000 - n ∧ True)))) ∧ (decide ((0 : Int) < (↑(takT rows).length : Int)) = false → (((↑i :
 Int) == 0) = true → ∃ (s : DS), Z2 (wR (0 : Int) (2 : Int) rows = wR s.ck (2 : Int) (List.drop s.xi s.T) ∧ steps = s.steps ∧ Z25 ((0 : Int) = (↑s.xi : Int) ∧ IntKind.i64.wrap ((1 : Int) + IntKind.i64.wrap
 ((IntKind.u64.wrap e).tmod 6)) = s.cz ∧ Qc 0 ∧ takT rows = takT s.T ∧ Qb true ∧ IntKind.i64.wrap ((1 : Int) + IntKind.i64.wrap ((IntKind.u64.wrap e).tmod 6)) = s.cz ∧ Qc 0 ∧ (0 : Int) = (↑s.n : Int) ∧ (s.T ∈ L8 ∧ s.xi ≤
 s.T.length ∧ s.n + (s.T.length - s.xi) + 1 ≤ 60) ∧ (1000 : Nat) - s.n < 1000000 - n ∧ True))) ∧ (((↑i : Int) == 0) = false → ∃ (s : DS), Z2 (wR (0 : Int) (2 : Int) rows = wR s.ck (2 : Int) (List.drop s.xi s.T) ∧ steps =
 s.steps ∧ Z25 ((0 : Int) = (↑s.xi : Int) ∧ IntKind.i64.wrap ((1 : Int) + IntKind.i64.wrap ((IntKind.u64.wrap e).tmod 6)) = s.cz ∧ Qc 0 ∧ takT rows = takT s.T ∧ Qb true ∧ IntKind.i64.wrap ((1 : Int) + IntKind.i64.wrap
 ((IntKind.u64.wrap e).tmod 6)) = s.cz ∧ Qc 0 ∧ (0 : Int) = (↑s.n : Int) ∧ (s.T ∈ L8 ∧ s.xi ≤ s.T.length ∧ s.n + (s.T.length - s.xi) + 1 ≤ 60) ∧ (1000 : Nat) - s.n < 1000000 - n ∧ True)))))) := by kernel_rfl
theorem un_k11_ok (l p : List Op) (cl w e : Int) (s : US) (hI : (k11 p w e).I s) : Paid (cutS F (lookC (lU p)) 3000 Try.f4 b4 (fU l p cl w e) selU 16 (k11 p w e) s) := by
  obtain ⟨n, i, rd, rs, ws, xi, a, c, bk, value, steps, asked, W, rows⟩ := s
  obtain ⟨⟨⟨hpO, hc, hi, hrd, hrs, hws, hwd, hrr⟩, he, hn, hne, hrow, hbk⟩, hx⟩ := hI
  have hne : ws ≠ [] := hne
  have hrow : rows = rowsT (ws.map (·.pl)) := hrow
  have hbk : bk = 1 ∨ bk = 2 := hbk
  have hr8 : rows ∈ L8 := by rw [hrow]; exact rowsT_in _
  have hrl := rows_len rows hr8
  have hc : c = 1 ∨ c = 2 := hc
  have hi : i ≤ p.length + 1 := hi
  have hrd : rd.length ≤ i := hrd
  have hrs : rs.length ≤ i := hrs
  have hws : ws.length ≤ i := hws
  have hwd : ∀ w ∈ ws, isData w.pl := hwd
  have hrr : ∀ w ∈ rs, 0 ≤ w.pl ∧ w.pl < 3 := hrr
  have hn : n ≤ 60 := hn
  have hB : ∀ {n xi : Nat} {a bk value steps asked : Int} {W rows : List Int}, baseI p ⟨n, i, rd, rs, ws, xi, a, c, bk, value, steps, asked, W, rows⟩ := mkBase hpO hc hi hrd hrs hws hwd hrr
  have hp8 := hpO.1
  have hw60 := when_lt w
  have he : i = p.length + 1 := he
  refine ⟨?_⟩
  rw [un_k11]
  refine ⟨?_, ?_⟩
  · intro h1
    replace h1 := of_decide_eq_true h1
    first
    | (exfalso; omega)
    | (refine ⟨rfl, ?_, ?_⟩
       · intro h2
         exact absurd ((show decide ((↑(wR (0 : Int) (2 : Int) rows).length : Int) < (34 : Int)) = false by kernel_rfl).symm.trans h2) (by decide)
       · intro h3
         replace h3 := of_decide_eq_false h3
         first
         | (exfalso; omega)
         | (refine ⟨rfl, rfl, ?_, ?_⟩
            · intro h4
              exact absurd ((show decide ((↑(wR (0 : Int) (2 : Int) rows).length : Int) < (34 : Int)) = false by kernel_rfl).symm.trans h4) (by decide)
            · intro h5
              replace h5 := of_decide_eq_false h5
              first
              | (exfalso; omega)
              | (refine ⟨rfl, (And.intro (show (0 : Int) ≤ (0 : Int) from (by decide)) (show (0 : Int) < ((Mw.mk (wR (0 : Int) (2 : Int) rows)).ws.length : Int) from (show _ < ((34 : Nat) : Int) by decide))), ?_, ?_, ?_, ?_⟩
                 · exact ⟨(by decide), (show _ < ((34 : Nat) : Int) by decide)⟩
                 · exact ⟨(by decide), (show _ < ((34 : Nat) : Int) by decide)⟩
                 · intro h6
                   refine ⟨?_, ?_, ?_, ?_⟩
                   · exact ⟨(by decide), (show _ < ((34 : Nat) : Int) by decide)⟩
                   · exact ⟨(by decide), (show _ < ((34 : Nat) : Int) by decide)⟩
                   · intro h7
                     refine ⟨?_, ?_⟩
                     · intro h8
                       replace h8 := of_decide_eq_true h8
                       first
                       | (exfalso; omega)
                       | (exact ⟨⟨n + 1, i, rd, rs, ws, 0, a, c, (2 : Int), value, IntKind.i64.wrap (steps + (1 : Int)), asked, W, rows⟩, ⟨rfl, rfl, t2 ⟨rfl, rfl, t8 ⟨rfl, t9 ⟨rfl, rfl, rfl, rfl, rfl, t27 ⟨rfl, rfl, t29 ⟨rfl, rfl, rfl, rfl, rfl, rfl, t16 ⟨rfl, (wN (by omega)), ⟨(mkLate hB (by omega) (by omega) hne hrow (.inr rfl)), (show (0) < (rs).length by omega)⟩, (mN hn), trivial⟩⟩⟩⟩⟩⟩⟩⟩)
                     · intro h9
                       replace h9 := of_decide_eq_false h9
                       first
                       | (exfalso; omega)
                       | (refine ⟨?_, ?_⟩
                          · intro h10
                            replace h10 := of_decide_eq_true h10
                            first
                            | (exfalso; omega)
                            | (exact ⟨⟨n + 1, i, rd, rs, ws, 0, a, c, bk, value, IntKind.i64.wrap (steps + (1 : Int)), asked, (wR (0 : Int) (2 : Int) rows).set (0 : Nat) (1 : Int), rows⟩, ⟨rfl, rfl, t2 ⟨rfl, rfl, t7 ⟨rfl, rfl, rfl, rfl, rfl, t22 ⟨rfl, rfl, rfl, rfl, rfl, rfl, t16 ⟨rfl, (wN (by omega)), ⟨(mkSure hB (by omega) (by omega) (by first | rfl | exact hW | (simp only [List.length_set]; first | rfl | exact hW))), (And.intro (show (0) < (ws).length by first | omega | (simp only [List.length_map] at *; omega)) (And.intro hrl (rows_mem rows hr8)))⟩, (mN hn), trivial⟩⟩⟩⟩⟩⟩)
                          · intro h11
                            replace h11 := of_decide_eq_false h11
                            first
                            | (exfalso; omega)
                            | (refine ⟨?_, ?_⟩
                               · intro h12
                                 replace h12 := of_decide_eq_true h12
                                 first
                                 | (exfalso; omega)
                                 | (exact ⟨⟨n + 1, i, rd, rs, ws, xi, (1 : Int), c, bk, value, IntKind.i64.wrap (steps + (1 : Int)), asked, (wR (0 : Int) (2 : Int) rows).set (0 : Nat) (1 : Int), rows⟩, ⟨rfl, rfl, t2 ⟨rfl, rfl, t7 ⟨rfl, rfl, rfl, rfl, rfl, t23 ⟨rfl, rfl, rfl, rfl, t16 ⟨rfl, (wN (by omega)), ⟨(mkSure hB (by omega) (by omega) (by first | rfl | exact hW | (simp only [List.length_set]; first | rfl | exact hW))), trivial⟩, (mN hn), trivial⟩⟩⟩⟩⟩⟩)
                               · intro h13
                                 replace h13 := of_decide_eq_false h13
                                 first
                                 | (exfalso; omega)
                                 | (exact ⟨⟨n + 1, i, rd, rs, ws, 0, a, c, bk, value, IntKind.i64.wrap (steps + (1 : Int)), asked, (wR (0 : Int) (2 : Int) rows).set (0 : Nat) (1 : Int), rows⟩, ⟨rfl, rfl, t2 ⟨rfl, rfl, t7 ⟨rfl, rfl, rfl, rfl, rfl, t26 ⟨rfl, rfl, rfl, rfl, rfl, rfl, t16 ⟨rfl, (wN (by omega)), ⟨(mkSure hB (by omega) (by omega) (by first | rfl | exact hW | (simp only [List.length_set]; first | rfl | exact hW))), (And.intro (show (0) < (rows).length by first | omega | (simp only [List.length_map] at *; omega)) (And.intro hrl (rows_mem rows hr8)))⟩, (mN hn), trivial⟩⟩⟩⟩⟩⟩)))
                   · intro h14
                     exact absurd ((show (at0 (wR (0 : Int) (2 : Int) rows) (0 : Int) == (0 : Int)) = true by kernel_rfl).symm.trans h14) (by decide)
                 · intro h15
                   exact absurd ((show (at0 (wR (0 : Int) (2 : Int) rows) (0 : Int) == (0 : Int)) = true by kernel_rfl).symm.trans h15) (by decide))))
  · intro h16
    replace h16 := of_decide_eq_false h16
    first
    | (exfalso; omega)
    | (refine ⟨?_, ?_⟩
       · intro h17
         replace h17 := of_decide_eq_true h17
         rw [tak_len] at h17
         first
         | (exfalso; omega)
         | (refine ⟨?_, ?_⟩
            · intro h18
              replace h18 := eq_of_beq h18
              first
              | (exfalso; omega)
              | (exact ⟨⟨0, 0, rows, (0 : Int), steps, IntKind.i64.wrap ((1 : Int) + IntKind.i64.wrap ((IntKind.u64.wrap e).tmod (6 : Int)))⟩, (t2 ⟨rfl, rfl, t25 ⟨rfl, rfl, rfl, rfl, rfl, rfl, rfl, rfl, ⟨hr8, (show (0) ≤ (rows).length by have := rows_len _ hr8; omega), (show (0) + ((rows).length - (0)) + (1 : Nat) ≤ (60 : Nat) by have := rows_len _ hr8; omega)⟩, (show (1000 : Nat) - (0) < (1000000 : Nat) - n by omega), trivial⟩⟩)⟩)
            · intro h19
              replace h19 := ne_of_beq_false h19
              first
              | (exfalso; omega)
              | (exact ⟨⟨0, 0, rows, (0 : Int), steps, IntKind.i64.wrap ((1 : Int) + IntKind.i64.wrap ((IntKind.u64.wrap e).tmod (6 : Int)))⟩, (t2 ⟨rfl, rfl, t25 ⟨rfl, rfl, rfl, rfl, rfl, rfl, rfl, rfl, ⟨hr8, (show (0) ≤ (rows).length by have := rows_len _ hr8; omega), (show (0) + ((rows).length - (0)) + (1 : Nat) ≤ (60 : Nat) by have := rows_len _ hr8; omega)⟩, (show (1000 : Nat) - (0) < (1000000 : Nat) - n by omega), trivial⟩⟩)⟩))
       · intro h20
         replace h20 := of_decide_eq_false h20
         rw [tak_len] at h20
         first
         | (exfalso; omega)
         | (refine ⟨?_, ?_⟩
            · intro h21
              replace h21 := eq_of_beq h21
              first
              | (exfalso; omega)
              | (exact ⟨⟨0, 0, rows, (0 : Int), steps, IntKind.i64.wrap ((1 : Int) + IntKind.i64.wrap ((IntKind.u64.wrap e).tmod (6 : Int)))⟩, (t2 ⟨rfl, rfl, t25 ⟨rfl, rfl, rfl, rfl, rfl, rfl, rfl, rfl, ⟨hr8, (show (0) ≤ (rows).length by have := rows_len _ hr8; omega), (show (0) + ((rows).length - (0)) + (1 : Nat) ≤ (60 : Nat) by have := rows_len _ hr8; omega)⟩, (show (1000 : Nat) - (0) < (1000000 : Nat) - n by omega), trivial⟩⟩)⟩)
            · intro h22
              replace h22 := ne_of_beq_false h22
              first
              | (exfalso; omega)
              | (exact ⟨⟨0, 0, rows, (0 : Int), steps, IntKind.i64.wrap ((1 : Int) + IntKind.i64.wrap ((IntKind.u64.wrap e).tmod (6 : Int)))⟩, (t2 ⟨rfl, rfl, t25 ⟨rfl, rfl, rfl, rfl, rfl, rfl, rfl, rfl, ⟨hr8, (show (0) ≤ (rows).length by have := rows_len _ hr8; omega), (show (0) + ((rows).length - (0)) + (1 : Nat) ≤ (60 : Nat) by have := rows_len _ hr8; omega)⟩, (show (1000 : Nat) - (0) < (1000000 : Nat) - n by omega), trivial⟩⟩)⟩)))
theorem un_k12 (l p : List Op) (cl w e : Int) (n : Nat) (i : Nat) (rd : List Wo) (rs : List Wo) (ws : List Wo) (xi : Nat) (a : Int) (c : Int) (bk : Int) (value : Int) (steps : Int) (asked : Int) (W : List Int) (rows :
 List Int) : Go.Sy.Tree.holds (cutS F (lookC (lU p)) 3000 Try.f4 b4 (fU l p cl w e) selU 16 (k12 p w e) ⟨n, i, rd, rs, ws, xi, a, c, bk, value, steps, asked, W, rows⟩) = ( (decide ((↑n : Int) < IntKind.i64.wrap
 ((IntKind.u64.wrap w).tmod 60)) = true → sizeD.pre (mp1, ()) ∧ (decide ((↑(wR (1 : Int) (2 : Int) rows).length : Int) < 34) = true → (decide ((↑i : Int) > (↑p.length : Int)) = true → ∃ (s : US), w = w ∧ e = e ∧ Z2 (wR (1
 : Int) (2 : Int) rows = s.W ∧ steps = s.steps ∧ Z7 (rs = s.rs ∧ Q 32 ∧ ws = s.ws ∧ filtT ws = filtT s.ws ∧ asked = s.asked ∧ Qn ∧ AVal.int IntKind.i64 (1 : Int) = AVal.int IntKind.i64 (2 : Int) ∧ AVal.int IntKind.i64 (4
 : Int) = AVal.int IntKind.i64 (0 : Int) ∧ value = s.value ∧ p = p ∧ (↑i : Int) = (↑s.i : Int) ∧ constA (Value.bool false) = AVal.bool false ∧ Qc 1 ∧ rd = s.rd ∧ IntKind.i64.wrap ((↑n : Int) + 1) = (↑s.n : Int) ∧ (sureI p
 s ∧ (fun (s : US) => True) s) ∧ (1000000 : Nat) - s.n < 1000000 - n ∧ True))) ∧ (decide ((↑i : Int) > (↑p.length : Int)) = false → (decide ((↑i : Int) > 0) = true → ((0 : Int) ≤ IntKind.i64.wrap ((↑i : Int) - 1) ∧
 IntKind.i64.wrap ((↑i : Int) - 1) < (↑p.length : Int)) ∧ ((0 : Int) ≤ IntKind.i64.wrap ((↑i : Int) - 1) ∧ IntKind.i64.wrap ((↑i : Int) - 1) < (↑p.length : Int)) ∧ (((at2 p (IntKind.i64.wrap ((↑i : Int) - 1))).kd == 0) =
 true → ((0 : Int) ≤ IntKind.i64.wrap ((↑i : Int) - 1) ∧ IntKind.i64.wrap ((↑i : Int) - 1) < (↑p.length : Int)) ∧ ((0 : Int) ≤ IntKind.i64.wrap ((↑i : Int) - 1) ∧ IntKind.i64.wrap ((↑i : Int) - 1) < (↑p.length : Int)) ∧
 (rd.length + [Wo.mk (at2 p (IntKind.i64.wrap ((↑i : Int) - 1))).pl value].length) * 16 ≤ 140737488355328 ∧ Stuck "sel: none") ∧ (((at2 p (IntKind.i64.wrap ((↑i : Int) - 1))).kd == 0) = false → Stuck "sel: none")) ∧
 (decide ((↑i : Int) > 0) = false → Stuck "sel: none"))) ∧ (decide ((↑(wR (1 : Int) (2 : Int) rows).length : Int) < 34) = false → atD.pre (Rs.mk (32 : Int) rs, (↑xi : Int), ()) ∧ stripeD.pre (mp1, (at3 (Rs.mk (32 : Int)
 rs).ls (↑xi : Int)).pl, ()) ∧ badD.pre (Mw.mk (wR (1 : Int) (2 : Int) rows), (2 : Int) + (at3 (Rs.mk (32 : Int) rs).ls (↑xi : Int)).pl, ()) ∧ ((0 : Int) ≤ 2 + (at3 (Rs.mk (32 : Int) rs).ls (↑xi : Int)).pl ∧ (2 : Int) +
 (at3 (Rs.mk (32 : Int) rs).ls (↑xi : Int)).pl < (↑(wR (1 : Int) (2 : Int) rows).length : Int)) ∧ ((0 : Int) ≤ 2 + (at3 (Rs.mk (32 : Int) rs).ls (↑xi : Int)).pl ∧ (2 : Int) + (at3 (Rs.mk (32 : Int) rs).ls (↑xi : Int)).pl
 < (↑(wR (1 : Int) (2 : Int) rows).length : Int)) ∧ (at0 (wR (1 : Int) (2 : Int) rows) ((2 : Int) + (at3 (Rs.mk (32 : Int) rs).ls (↑xi : Int)).pl) = 0 ∨ at0 (wR (1 : Int) (2 : Int) rows) ((2 : Int) + (at3 (Rs.mk (32 :
 Int) rs).ls (↑xi : Int)).pl) = 2) ∧ ((at0 (wR (1 : Int) (2 : Int) rows) ((2 : Int) + (at3 (Rs.mk (32 : Int) rs).ls (↑xi : Int)).pl) == 0) = true → versionD.pre (at0 (wR (1 : Int) (2 : Int) rows) ((2 : Int) + (at3 (Rs.mk
 (32 : Int) rs).ls (↑xi : Int)).pl), ()) ∧ (decide (IntKind.i64.wrap ((↑xi : Int) + 1) < (↑rs.length : Int)) = true → ((bk == 1) = true → (decide ((0 : Int) < (↑ws.length : Int)) = true → ∃ (s : US), w = w ∧ e = e ∧ Z2
 (wR (1 : Int) (2 : Int) rows = s.W ∧ IntKind.i64.wrap (steps + 1) = s.steps ∧ Z7 (rs = s.rs ∧ Q 32 ∧ ws = s.ws ∧ filtT ws = filtT s.ws ∧ asked = s.asked ∧ Z22 ((0 : Int) = (↑s.xi : Int) ∧ value = s.value ∧ Q 1 ∧ rows =
 s.rows ∧ p = p ∧ (↑i : Int) = (↑s.i : Int) ∧ Z16 (rd = s.rd ∧ IntKind.i64.wrap ((↑n : Int) + 1) = (↑s.n : Int) ∧ (sureI p s ∧ (fun (s : US) => s.xi < s.ws.length ∧ rowIn s) s) ∧ (1000000 : Nat) - s.n < 1000000 - n ∧
 True))))) ∧ (decide ((0 : Int) < (↑ws.length : Int)) = false → (decide ((0 : Int) ≥ (↑rows.length : Int)) = true → ∃ (s : US), w = w ∧ e = e ∧ Z2 (wR (1 : Int) (2 : Int) rows = s.W ∧ IntKind.i64.wrap (steps + 1) =
 s.steps ∧ Z7 (rs = s.rs ∧ Q 32 ∧ ws = s.ws ∧ filtT ws = filtT s.ws ∧ asked = s.asked ∧ Z23 (value = s.value ∧ (1 : Int) = s.a ∧ p = p ∧ (↑i : Int) = (↑s.i : Int) ∧ Z16 (rd = s.rd ∧ IntKind.i64.wrap ((↑n : Int) + 1) =
 (↑s.n : Int) ∧ (sureI p s ∧ (fun (s : US) => True) s) ∧ (1000000 : Nat) - s.n < 1000000 - n ∧ True))))) ∧ (decide ((0 : Int) ≥ (↑rows.length : Int)) = false → ∃ (s : US), w = w ∧ e = e ∧ Z2 (wR (1 : Int) (2 : Int) rows =
 s.W ∧ IntKind.i64.wrap (steps + 1) = s.steps ∧ Z7 (rs = s.rs ∧ Q 32 ∧ ws = s.ws ∧ filtT ws = filtT s.ws ∧ asked = s.asked ∧ Z26 ((0 : Int) = (↑s.xi : Int) ∧ value = s.value ∧ Q 1 ∧ rows = s.rows ∧ p = p ∧ (↑i : Int) =
 (↑s.i : Int) ∧ Z16 (rd = s.rd ∧ IntKind.i64.wrap ((↑n : Int) + 1) = (↑s.n : Int) ∧ (sureI p s ∧ (fun (s : US) => s.xi < s.rows.length ∧ rowIn s) s) ∧ (1000000 : Nat) - s.n < 1000000 - n ∧ True))))))) ∧ ((bk == 1) = false
 → ∃ (s : US), w = w ∧ e = e ∧ Z2 (wR (1 : Int) (2 : Int) rows = wR (1 : Int) (2 : Int) s.rows ∧ IntKind.i64.wrap (steps + 1) = s.steps ∧ Z8 (c = s.c ∧ Z9 (rs = s.rs ∧ Q 32 ∧ ws = s.ws ∧ filtT ws = filtT s.ws ∧ asked =
 s.asked ∧ Z30 (IntKind.i64.wrap ((↑xi : Int) + 1) = (↑s.xi : Int) ∧ value = s.value ∧ Z29 (bk = s.bk ∧ rows = s.rows ∧ takT rows = takT s.rows ∧ Qb true ∧ p = p ∧ (↑i : Int) = (↑s.i : Int) ∧ Z16 (rd = s.rd ∧
 IntKind.i64.wrap ((↑n : Int) + 1) = (↑s.n : Int) ∧ (lateI p s ∧ (fun (s : US) => s.xi < s.rs.length) s) ∧ (1000000 : Nat) - s.n < 1000000 - n ∧ True)))))))) ∧ (decide (IntKind.i64.wrap ((↑xi : Int) + 1) < (↑rs.length :
 Int)) = false → (decide ((0 : Int) < (↑ws.length : Int)) = true → ∃ (s : US), w = w ∧ e = e ∧ Z2 (wR (1 : Int) (2 : Int) rows = s.W ∧ IntKind.i64.wrap (steps + 1) = s.steps ∧ Z7 (rs = s.rs ∧ Q 32 ∧ ws = s.ws ∧ filtT ws =
 filtT s.ws ∧ asked = s.asked ∧ Z22 ((0 : Int) = (↑s.xi : Int) ∧ value = s.value ∧ Q 1 ∧ rows = s.rows ∧ p = p ∧ (↑i : Int) = (↑s.i : Int) ∧ Z16 (rd = s.rd ∧ IntKind.i64.wrap ((↑n : Int) + 1) = (↑s.n : Int) ∧ (sureI p s ∧
 (fun (s : US) => s.xi < s.ws.length ∧ rowIn s) s) ∧ (1000000 : Nat) - s.n < 1000000 - n ∧ True))))) ∧ (decide ((0 : Int) < (↑ws.length : Int)) = false → (decide ((0 : Int) ≥ (↑rows.length : Int)) = true → ∃ (s : US), w =
 w ∧ e = e ∧ Z2 (wR (1 : Int) (2 : Int) rows = s.W ∧ IntKind.i64.wrap (steps + 1) = s.steps ∧ Z7 (rs = s.rs ∧ Q 32 ∧ ws = s.ws ∧ filtT ws = filtT s.ws ∧ asked = s.asked ∧ Z23 (value = s.value ∧ (1 : Int) = s.a ∧ p = p ∧
 (↑i : Int) = (↑s.i : Int) ∧ Z16 (rd = s.rd ∧ IntKind.i64.wrap ((↑n : Int) + 1) = (↑s.n : Int) ∧ (sureI p s ∧ (fun (s : US) => True) s) ∧ (1000000 : Nat) - s.n < 1000000 - n ∧ True))))) ∧ (decide ((0 : Int) ≥
 (↑rows.length : Int)) = false → ∃ (s : US), w = w ∧ e = e ∧ Z2 (wR (1 : Int) (2 : Int) rows = s.W ∧ IntKind.i64.wrap (steps + 1) = s.steps ∧ Z7 (rs = s.rs ∧ Q 32 ∧ ws = s.ws ∧ filtT ws = filtT s.ws ∧ asked = s.asked ∧
 Z26 ((0 : Int) = (↑s.xi : Int) ∧ value = s.value ∧ Q 1 ∧ rows = s.rows ∧ p = p ∧ (↑i : Int) = (↑s.i : Int) ∧ Z16 (rd = s.rd ∧ IntKind.i64.wrap ((↑n : Int) + 1) = (↑s.n : Int) ∧ (sureI p s ∧ (fun (s : US) => s.xi <
 s.rows.length ∧ rowIn s) s) ∧ (1000000 : Nat) - s.n < 1000000 - n ∧ True)))))))) ∧ ((at0 (wR (1 : Int) (2 : Int) rows) ((2 : Int) + (at3 (Rs.mk (32 : Int) rs).ls (↑xi : Int)).pl) == 0) = false → versionD.pre (at0 (wR (1
 : Int) (2 : Int) rows) ((2 : Int) + (at3 (Rs.mk (32 : Int) rs).ls (↑xi : Int)).pl), ()) ∧ (decide (IntKind.i64.wrap ((↑xi : Int) + 1) < (↑rs.length : Int)) = true → ((bk == 1) = true → (decide ((0 : Int) < (↑ws.length :
 Int)) = true → ∃ (s : US), w = w ∧ e = e ∧ Z2 (wR (1 : Int) (2 : Int) rows = s.W ∧ IntKind.i64.wrap (steps + 1) = s.steps ∧ Z7 (rs = s.rs ∧ Q 32 ∧ ws = s.ws ∧ filtT ws = filtT s.ws ∧ asked = s.asked ∧ Z22 ((0 : Int) =
 (↑s.xi : Int) ∧ value = s.value ∧ Q 1 ∧ rows = s.rows ∧ p = p ∧ (↑i : Int) = (↑s.i : Int) ∧ Z16 (rd = s.rd ∧ IntKind.i64.wrap ((↑n : Int) + 1) = (↑s.n : Int) ∧ (sureI p s ∧ (fun (s : US) => s.xi < s.ws.length ∧ rowIn s)
 s) ∧ (1000000 : Nat) - s.n < 1000000 - n ∧ True))))) ∧ (decide ((0 : Int) < (↑ws.length : Int)) = false → (decide ((0 : Int) ≥ (↑rows.length : Int)) = true → ∃ (s : US), w = w ∧ e = e ∧ Z2 (wR (1 : Int) (2 : Int) rows =
 s.W ∧ IntKind.i64.wrap (steps + 1) = s.steps ∧ Z7 (rs = s.rs ∧ Q 32 ∧ ws = s.ws ∧ filtT ws = filtT s.ws ∧ asked = s.asked ∧ Z23 (value = s.value ∧ (1 : Int) = s.a ∧ p = p ∧ (↑i : Int) = (↑s.i : Int) ∧ Z16 (rd = s.rd ∧
 IntKind.i64.wrap ((↑n : Int) + 1) = (↑s.n : Int) ∧ (sureI p s ∧ (fun (s : US) => True) s) ∧ (1000000 : Nat) - s.n < 1000000 - n ∧ True))))) ∧ (decide ((0 : Int) ≥ (↑rows.length : Int)) = false → ∃ (s : US), w = w ∧ e = e
 ∧ Z2 (wR (1 : Int) (2 : Int) rows = s.W ∧ IntKind.i64.wrap (steps + 1) = s.steps ∧ Z7 (rs = s.rs ∧ Q 32 ∧ ws = s.ws ∧ filtT ws = filtT s.ws ∧ asked = s.asked ∧ Z26 ((0 : Int) = (↑s.xi : Int) ∧ value = s.value ∧ Q 1 ∧
 rows = s.rows ∧ p = p ∧ (↑i : Int) = (↑s.i : Int) ∧ Z16 (rd = s.rd ∧ IntKind.i64.wrap ((↑n : Int) + 1) = (↑s.n : Int) ∧ (sureI p s ∧ (fun (s : US) => s.xi < s.rows.length ∧ rowIn s) s) ∧ (1000000 : Nat) - s.n < 1000000 -
 n ∧ True))))))) ∧ ((bk == 1) = false → ∃ (s : US), w = w ∧ e = e ∧ Z2 (wR (1 : Int) (2 : Int) rows = wR (1 : Int) (2 : Int) s.rows ∧ IntKind.i64.wrap (steps + 1) = s.steps ∧ Z8 (c = s.c ∧ Z9 (rs = s.rs ∧ Q 32 ∧ ws = s.ws
 ∧ filtT ws = filtT s.ws ∧ asked = s.asked ∧ Z30 (IntKind.i64.wrap ((↑xi : Int) + 1) = (↑s.xi : Int) ∧ value = s.value ∧ Z29 (bk = s.bk ∧ rows = s.rows ∧ takT rows = takT s.rows ∧ Qb true ∧ p = p ∧ (↑i : Int) = (↑s.i :
 Int) ∧ Z16 (rd = s.rd ∧ IntKind.i64.wrap ((↑n : Int) + 1) = (↑s.n : Int) ∧ (lateI p s ∧ (fun (s : US) => s.xi < s.rs.length) s) ∧ (1000000 : Nat) - s.n < 1000000 - n ∧ True)))))))) ∧ (decide (IntKind.i64.wrap ((↑xi :
 Int) + 1) < (↑rs.length : Int)) = false → (decide ((0 : Int) < (↑ws.length : Int)) = true → ∃ (s : US), w = w ∧ e = e ∧ Z2 (wR (1 : Int) (2 : Int) rows = s.W ∧ IntKind.i64.wrap (steps + 1) = s.steps ∧ Z7 (rs = s.rs ∧ Q
 32 ∧ ws = s.ws ∧ filtT ws = filtT s.ws ∧ asked = s.asked ∧ Z22 ((0 : Int) = (↑s.xi : Int) ∧ value = s.value ∧ Q 1 ∧ rows = s.rows ∧ p = p ∧ (↑i : Int) = (↑s.i : Int) ∧ Z16 (rd = s.rd ∧ IntKind.i64.wrap ((↑n : Int) + 1) =
 (↑s.n : Int) ∧ (sureI p s ∧ (fun (s : US) => s.xi < s.ws.length ∧ rowIn s) s) ∧ (1000000 : Nat) - s.n < 1000000 - n ∧ True))))) ∧ (decide ((0 : Int) < (↑ws.length : Int)) = false → (decide ((0 : Int) ≥ (↑rows.length :
 Int)) = true → ∃ (s : US), w = w ∧ e = e ∧ Z2 (wR (1 : Int) (2 : Int) rows = s.W ∧ IntKind.i64.wrap (steps + 1) = s.steps ∧ Z7 (rs = s.rs ∧ Q 32 ∧ ws = s.ws ∧ filtT ws = filtT s.ws ∧ asked = s.asked ∧ Z23 (value =
 s.value ∧ (1 : Int) = s.a ∧ p = p ∧ (↑i : Int) = (↑s.i : Int) ∧ Z16 (rd = s.rd ∧ IntKind.i64.wrap ((↑n : Int) + 1) = (↑s.n : Int) ∧ (sureI p s ∧ (fun (s : US) => True) s) ∧ (1000000 : Nat) - s.n < 1000000 - n ∧ True)))))
 ∧ (decide ((0 : Int) ≥ (↑rows.length : Int)) = false → ∃ (s : US), w = w ∧ e = e ∧ Z2 (wR (1 : Int) (2 : Int) rows = s.W ∧ IntKind.i64.wrap (steps + 1) = s.steps ∧ Z7 (rs = s.rs ∧ Q 32 ∧ ws = s.ws ∧ filtT ws = filtT s.ws
 ∧ asked = s.asked ∧ Z26 ((0 : Int) = (↑s.xi : Int) ∧ value = s.value ∧ Q 1 ∧ rows = s.rows ∧ p = p ∧ (↑i : Int) = (↑s.i : Int) ∧ Z16 (rd = s.rd ∧ IntKind.i64.wrap ((↑n : Int) + 1) = (↑s.n : Int) ∧ (sureI p s ∧ (fun (s :
 US) => s.xi < s.rows.length ∧ rowIn s) s) ∧ (1000000 : Nat) - s.n < 1000000 - n ∧ True)))))))))) ∧ (decide ((↑n : Int) < IntKind.i64.wrap ((IntKind.u64.wrap w).tmod 60)) = false → (decide ((0 : Int) < (↑(takT
 rows).length : Int)) = true → (((↑i : Int) == 0) = true → ∃ (s : DS), Z2 (wR (1 : Int) (2 : Int) rows = wR s.ck (2 : Int) (List.drop s.xi s.T) ∧ steps = s.steps ∧ Z25 ((0 : Int) = (↑s.xi : Int) ∧ IntKind.i64.wrap ((1 :
 Int) + IntKind.i64.wrap ((IntKind.u64.wrap e).tmod 6)) = s.cz ∧ Qc 0 ∧ takT rows = takT s.T ∧ Qb true ∧ IntKind.i64.wrap ((1 : Int) + IntKind.i64.wrap ((IntKind.u64.wrap e).tmod 6)) = s.cz ∧ Qc 0 ∧ (0 : Int) = (↑s.n :
 Int) ∧ (s.T ∈ L8 ∧ s.xi ≤ s.T.length ∧ s.n + (s.T.length - s.xi) + 1 ≤ 60) ∧ (1000 : Nat) - s.n < 1000000 - n ∧ True))) ∧ (((↑i : Int) == 0) = false → ∃ (s : DS), Z2 (wR (1 : Int) (2 : Int) rows = wR s.ck (2 : Int)
 (List.drop s.xi s.T) ∧ steps = s.steps ∧ Z25 ((0 : Int) = (↑s.xi : Int) ∧ IntKind.i64.wrap ((1 : Int) + IntKind.i64.wrap ((IntKind.u64.wrap e).tmod 6)) = s.cz ∧ Qc 0 ∧ takT rows = takT s.T ∧ Qb true ∧ IntKind.i64.wrap
 ((1 : Int) + IntKind.i64.wrap ((IntKind.u64.wrap e).tmod 6)) = s.cz ∧ Qc 0 ∧ (0 : Int) = (↑s.n : Int) ∧ (s.T ∈ L8 ∧ s.xi ≤ s.T.length ∧ s.n + (s.T.length - s.xi) + 1 ≤ 60) ∧ (1000 : Nat) - s.n < 1000000 - n ∧ True)))) ∧
 (decide ((0 : Int) < (↑(takT rows).length : Int)) = false → (((↑i : Int) == 0) = true → ∃ (s : DS), Z2 (wR (1 : Int) (2 : Int) rows = wR s.ck (2 : Int) (List.drop s.xi s.T) ∧ steps = s.steps ∧ Z25 ((0 : Int) = (↑s.xi :
 Int) ∧ IntKind.i64.wrap ((1 : Int) + IntKind.i64.wrap ((IntKind.u64.wrap e).tmod 6)) = s.cz ∧ Qc 0 ∧ takT rows = takT s.T ∧ Qb true ∧ IntKind.i64.wrap ((1 : Int) + IntKind.i64.wrap ((IntKind.u64.wrap e).tmod 6)) = s.cz ∧
 Qc 0 ∧ (0 : Int) = (↑s.n : Int) ∧ (s.T ∈ L8 ∧ s.xi ≤ s.T.length ∧ s.n + (s.T.length - s.xi) + 1 ≤ 60) ∧ (1000 : Nat) - s.n < 1000000 - n ∧ True))) ∧ (((↑i : Int) == 0) = false → ∃ (s : DS), Z2 (wR (1 : Int) (2 : Int)
 rows = wR s.ck (2 : Int) (List.drop s.xi s.T) ∧ steps = s.steps ∧ Z25 ((0 : Int) = (↑s.xi : Int) ∧ IntKind.i64.wrap ((1 : Int) + IntKind.i64.wrap ((IntKind.u64.wrap e).tmod 6)) = s.cz ∧ Qc 0 ∧ takT rows = takT s.T ∧ Qb
 true ∧ IntKind.i64.wrap ((1 : Int) + IntKind.i64.wrap ((IntKind.u64.wrap e).tmod 6)) = s.cz ∧ Qc 0 ∧ (0 : Int) = (↑s.n : Int) ∧ (s.T ∈ L8 ∧ s.xi ≤ s.T.length ∧ s.n + (s.T.length - s.xi) + 1 ≤ 60) ∧ (1000 : Nat) - s.n <
 1000000 - n ∧ True)))))) := by kernel_rfl
theorem un_k12_ok (l p : List Op) (cl w e : Int) (s : US) (hI : (k12 p w e).I s) : Paid (cutS F (lookC (lU p)) 3000 Try.f4 b4 (fU l p cl w e) selU 16 (k12 p w e) s) := by
  obtain ⟨n, i, rd, rs, ws, xi, a, c, bk, value, steps, asked, W, rows⟩ := s
  obtain ⟨⟨⟨hpO, hc, hi, hrd, hrs, hws, hwd, hrr⟩, he, hn, hne, hrow, hbk⟩, hx⟩ := hI
  have hne : ws ≠ [] := hne
  have hrow : rows = rowsT (ws.map (·.pl)) := hrow
  have hbk : bk = 1 ∨ bk = 2 := hbk
  have hr8 : rows ∈ L8 := by rw [hrow]; exact rowsT_in _
  have hrl := rows_len rows hr8
  have hx : xi < rs.length := hx
  have hq : 0 ≤ (at3 (Rs.mk (32 : Int) rs).ls (xi : Int)).pl ∧ (at3 (Rs.mk (32 : Int) rs).ls (xi : Int)).pl < 3 := by show 0 ≤ (at3 rs (xi : Int)).pl ∧ (at3 rs (xi : Int)).pl < 3; rw [at3_get hx]; exact hrr _ (List.getElem_mem _)
  have hc : c = 1 ∨ c = 2 := hc
  have hi : i ≤ p.length + 1 := hi
  have hrd : rd.length ≤ i := hrd
  have hrs : rs.length ≤ i := hrs
  have hws : ws.length ≤ i := hws
  have hwd : ∀ w ∈ ws, isData w.pl := hwd
  have hrr : ∀ w ∈ rs, 0 ≤ w.pl ∧ w.pl < 3 := hrr
  have hn : n ≤ 60 := hn
  have hB : ∀ {n xi : Nat} {a bk value steps asked : Int} {W rows : List Int}, baseI p ⟨n, i, rd, rs, ws, xi, a, c, bk, value, steps, asked, W, rows⟩ := mkBase hpO hc hi hrd hrs hws hwd hrr
  have hp8 := hpO.1
  have hw60 := when_lt w
  have he : i = p.length + 1 := he
  refine ⟨?_⟩
  rw [un_k12]
  refine ⟨?_, ?_⟩
  · intro h1
    replace h1 := of_decide_eq_true h1
    first
    | (exfalso; omega)
    | (refine ⟨rfl, ?_, ?_⟩
       · intro h2
         exact absurd ((show decide ((↑(wR (1 : Int) (2 : Int) rows).length : Int) < (34 : Int)) = false by kernel_rfl).symm.trans h2) (by decide)
       · intro h3
         replace h3 := of_decide_eq_false h3
         first
         | (exfalso; omega)
         | (refine ⟨(And.intro (show (0 : Int) ≤ (↑xi : Int) by omega) (show (↑xi : Int) < (rs.length : Int) by omega)), (And.intro rfl (And.intro (show (0 : Int) ≤ (at3 (Rs.mk (32 : Int) rs).ls (↑xi : Int)).pl from hq.1) (show (at3 (Rs.mk (32 : Int) rs).ls (↑xi : Int)).pl < (3 : Int) from hq.2))), (And.intro (show (0 : Int) ≤ (2 : Int) + (at3 (Rs.mk (32 : Int) rs).ls (↑xi : Int)).pl from (by have := hq.1; omega)) (show (2 : Int) + (at3 (Rs.mk (32 : Int) rs).ls (↑xi : Int)).pl < ((Mw.mk (wR (1 : Int) (2 : Int) rows)).ws.length : Int) from (show _ < (34 : Int) by have := hq.2; omega))), ?_, ?_, (wR_two hq.1 hq.2 _ _ _), ?_, ?_⟩
            · exact ⟨(by have := hq.1; omega), (show _ < (34 : Int) by have := hq.2; omega)⟩
            · exact ⟨(by have := hq.1; omega), (show _ < (34 : Int) by have := hq.2; omega)⟩
            · intro h4
              refine ⟨(wR_two hq.1 hq.2 _ _ _), ?_, ?_⟩
              · intro h5
                replace h5 := of_decide_eq_true h5
                rw [wN (show xi < 100000000 by omega)] at h5
                first
                | (exfalso; omega)
                | (refine ⟨?_, ?_⟩
                   · intro h6
                     replace h6 := eq_of_beq h6
                     first
                     | (exfalso; omega)
                     | (refine ⟨?_, ?_⟩
                        · intro h7
                          replace h7 := of_decide_eq_true h7
                          first
                          | (exfalso; omega)
                          | (exact ⟨⟨n + 1, i, rd, rs, ws, 0, a, c, bk, value, IntKind.i64.wrap (steps + (1 : Int)), asked, wR (1 : Int) (2 : Int) rows, rows⟩, ⟨rfl, rfl, t2 ⟨rfl, rfl, t7 ⟨rfl, rfl, rfl, rfl, rfl, t22 ⟨rfl, rfl, rfl, rfl, rfl, rfl, t16 ⟨rfl, (wN (by omega)), ⟨(mkSure hB (by omega) (by omega) (by first | rfl | exact hW | (simp only [List.length_set]; first | rfl | exact hW))), (And.intro (show (0) < (ws).length by first | omega | (simp only [List.length_map] at *; omega)) (And.intro hrl (rows_mem rows hr8)))⟩, (mN hn), trivial⟩⟩⟩⟩⟩⟩)
                        · intro h8
                          replace h8 := of_decide_eq_false h8
                          first
                          | (exfalso; omega)
                          | (refine ⟨?_, ?_⟩
                             · intro h9
                               replace h9 := of_decide_eq_true h9
                               first
                               | (exfalso; omega)
                               | (exact ⟨⟨n + 1, i, rd, rs, ws, xi, (1 : Int), c, bk, value, IntKind.i64.wrap (steps + (1 : Int)), asked, wR (1 : Int) (2 : Int) rows, rows⟩, ⟨rfl, rfl, t2 ⟨rfl, rfl, t7 ⟨rfl, rfl, rfl, rfl, rfl, t23 ⟨rfl, rfl, rfl, rfl, t16 ⟨rfl, (wN (by omega)), ⟨(mkSure hB (by omega) (by omega) (by first | rfl | exact hW | (simp only [List.length_set]; first | rfl | exact hW))), trivial⟩, (mN hn), trivial⟩⟩⟩⟩⟩⟩)
                             · intro h10
                               replace h10 := of_decide_eq_false h10
                               first
                               | (exfalso; omega)
                               | (exact ⟨⟨n + 1, i, rd, rs, ws, 0, a, c, bk, value, IntKind.i64.wrap (steps + (1 : Int)), asked, wR (1 : Int) (2 : Int) rows, rows⟩, ⟨rfl, rfl, t2 ⟨rfl, rfl, t7 ⟨rfl, rfl, rfl, rfl, rfl, t26 ⟨rfl, rfl, rfl, rfl, rfl, rfl, t16 ⟨rfl, (wN (by omega)), ⟨(mkSure hB (by omega) (by omega) (by first | rfl | exact hW | (simp only [List.length_set]; first | rfl | exact hW))), (And.intro (show (0) < (rows).length by first | omega | (simp only [List.length_map] at *; omega)) (And.intro hrl (rows_mem rows hr8)))⟩, (mN hn), trivial⟩⟩⟩⟩⟩⟩)))
                   · intro h11
                     replace h11 := ne_of_beq_false h11
                     first
                     | (exfalso; omega)
                     | (exact ⟨⟨n + 1, i, rd, rs, ws, xi + 1, a, c, bk, value, IntKind.i64.wrap (steps + (1 : Int)), asked, W, rows⟩, ⟨rfl, rfl, t2 ⟨rfl, rfl, t8 ⟨rfl, t9 ⟨rfl, rfl, rfl, rfl, rfl, t30 ⟨(wN (by omega)), rfl, t29 ⟨rfl, rfl, rfl, rfl, rfl, rfl, t16 ⟨rfl, (wN (by omega)), ⟨(mkLate hB (by omega) (by omega) hne hrow hbk), (show (xi + 1) < (rs).length by omega)⟩, (mN hn), trivial⟩⟩⟩⟩⟩⟩⟩⟩))
              · intro h12
                replace h12 := of_decide_eq_false h12
                rw [wN (show xi < 100000000 by omega)] at h12
                first
                | (exfalso; omega)
                | (refine ⟨?_, ?_⟩
                   · intro h13
                     replace h13 := of_decide_eq_true h13
                     first
                     | (exfalso; omega)
                     | (exact ⟨⟨n + 1, i, rd, rs, ws, 0, a, c, bk, value, IntKind.i64.wrap (steps + (1 : Int)), asked, wR (1 : Int) (2 : Int) rows, rows⟩, ⟨rfl, rfl, t2 ⟨rfl, rfl, t7 ⟨rfl, rfl, rfl, rfl, rfl, t22 ⟨rfl, rfl, rfl, rfl, rfl, rfl, t16 ⟨rfl, (wN (by omega)), ⟨(mkSure hB (by omega) (by omega) (by first | rfl | exact hW | (simp only [List.length_set]; first | rfl | exact hW))), (And.intro (show (0) < (ws).length by first | omega | (simp only [List.length_map] at *; omega)) (And.intro hrl (rows_mem rows hr8)))⟩, (mN hn), trivial⟩⟩⟩⟩⟩⟩)
                   · intro h14
                     replace h14 := of_decide_eq_false h14
                     first
                     | (exfalso; omega)
                     | (refine ⟨?_, ?_⟩
                        · intro h15
                          replace h15 := of_decide_eq_true h15
                          first
                          | (exfalso; omega)
                          | (exact ⟨⟨n + 1, i, rd, rs, ws, xi, (1 : Int), c, bk, value, IntKind.i64.wrap (steps + (1 : Int)), asked, wR (1 : Int) (2 : Int) rows, rows⟩, ⟨rfl, rfl, t2 ⟨rfl, rfl, t7 ⟨rfl, rfl, rfl, rfl, rfl, t23 ⟨rfl, rfl, rfl, rfl, t16 ⟨rfl, (wN (by omega)), ⟨(mkSure hB (by omega) (by omega) (by first | rfl | exact hW | (simp only [List.length_set]; first | rfl | exact hW))), trivial⟩, (mN hn), trivial⟩⟩⟩⟩⟩⟩)
                        · intro h16
                          replace h16 := of_decide_eq_false h16
                          first
                          | (exfalso; omega)
                          | (exact ⟨⟨n + 1, i, rd, rs, ws, 0, a, c, bk, value, IntKind.i64.wrap (steps + (1 : Int)), asked, wR (1 : Int) (2 : Int) rows, rows⟩, ⟨rfl, rfl, t2 ⟨rfl, rfl, t7 ⟨rfl, rfl, rfl, rfl, rfl, t26 ⟨rfl, rfl, rfl, rfl, rfl, rfl, t16 ⟨rfl, (wN (by omega)), ⟨(mkSure hB (by omega) (by omega) (by first | rfl | exact hW | (simp only [List.length_set]; first | rfl | exact hW))), (And.intro (show (0) < (rows).length by first | omega | (simp only [List.length_map] at *; omega)) (And.intro hrl (rows_mem rows hr8)))⟩, (mN hn), trivial⟩⟩⟩⟩⟩⟩)))
            · intro h17
              refine ⟨(wR_two hq.1 hq.2 _ _ _), ?_, ?_⟩
              · intro h18
                replace h18 := of_decide_eq_true h18
                rw [wN (show xi < 100000000 by omega)] at h18
                first
                | (exfalso; omega)
                | (refine ⟨?_, ?_⟩
                   · intro h19
                     replace h19 := eq_of_beq h19
                     first
                     | (exfalso; omega)
                     | (refine ⟨?_, ?_⟩
                        · intro h20
                          replace h20 := of_decide_eq_true h20
                          first
                          | (exfalso; omega)
                          | (exact ⟨⟨n + 1, i, rd, rs, ws, 0, a, c, bk, value, IntKind.i64.wrap (steps + (1 : Int)), asked, wR (1 : Int) (2 : Int) rows, rows⟩, ⟨rfl, rfl, t2 ⟨rfl, rfl, t7 ⟨rfl, rfl, rfl, rfl, rfl, t22 ⟨rfl, rfl, rfl, rfl, rfl, rfl, t16 ⟨rfl, (wN (by omega)), ⟨(mkSure hB (by omega) (by omega) (by first | rfl | exact hW | (simp only [List.length_set]; first | rfl | exact hW))), (And.intro (show (0) < (ws).length by first | omega | (simp only [List.length_map] at *; omega)) (And.intro hrl (rows_mem rows hr8)))⟩, (mN hn), trivial⟩⟩⟩⟩⟩⟩)
                        · intro h21
                          replace h21 := of_decide_eq_false h21
                          first
                          | (exfalso; omega)
                          | (refine ⟨?_, ?_⟩
                             · intro h22
                               replace h22 := of_decide_eq_true h22
                               first
                               | (exfalso; omega)
                               | (exact ⟨⟨n + 1, i, rd, rs, ws, xi, (1 : Int), c, bk, value, IntKind.i64.wrap (steps + (1 : Int)), asked, wR (1 : Int) (2 : Int) rows, rows⟩, ⟨rfl, rfl, t2 ⟨rfl, rfl, t7 ⟨rfl, rfl, rfl, rfl, rfl, t23 ⟨rfl, rfl, rfl, rfl, t16 ⟨rfl, (wN (by omega)), ⟨(mkSure hB (by omega) (by omega) (by first | rfl | exact hW | (simp only [List.length_set]; first | rfl | exact hW))), trivial⟩, (mN hn), trivial⟩⟩⟩⟩⟩⟩)
                             · intro h23
                               replace h23 := of_decide_eq_false h23
                               first
                               | (exfalso; omega)
                               | (exact ⟨⟨n + 1, i, rd, rs, ws, 0, a, c, bk, value, IntKind.i64.wrap (steps + (1 : Int)), asked, wR (1 : Int) (2 : Int) rows, rows⟩, ⟨rfl, rfl, t2 ⟨rfl, rfl, t7 ⟨rfl, rfl, rfl, rfl, rfl, t26 ⟨rfl, rfl, rfl, rfl, rfl, rfl, t16 ⟨rfl, (wN (by omega)), ⟨(mkSure hB (by omega) (by omega) (by first | rfl | exact hW | (simp only [List.length_set]; first | rfl | exact hW))), (And.intro (show (0) < (rows).length by first | omega | (simp only [List.length_map] at *; omega)) (And.intro hrl (rows_mem rows hr8)))⟩, (mN hn), trivial⟩⟩⟩⟩⟩⟩)))
                   · intro h24
                     replace h24 := ne_of_beq_false h24
                     first
                     | (exfalso; omega)
                     | (exact ⟨⟨n + 1, i, rd, rs, ws, xi + 1, a, c, bk, value, IntKind.i64.wrap (steps + (1 : Int)), asked, W, rows⟩, ⟨rfl, rfl, t2 ⟨rfl, rfl, t8 ⟨rfl, t9 ⟨rfl, rfl, rfl, rfl, rfl, t30 ⟨(wN (by omega)), rfl, t29 ⟨rfl, rfl, rfl, rfl, rfl, rfl, t16 ⟨rfl, (wN (by omega)), ⟨(mkLate hB (by omega) (by omega) hne hrow hbk), (show (xi + 1) < (rs).length by omega)⟩, (mN hn), trivial⟩⟩⟩⟩⟩⟩⟩⟩))
              · intro h25
                replace h25 := of_decide_eq_false h25
                rw [wN (show xi < 100000000 by omega)] at h25
                first
                | (exfalso; omega)
                | (refine ⟨?_, ?_⟩
                   · intro h26
                     replace h26 := of_decide_eq_true h26
                     first
                     | (exfalso; omega)
                     | (exact ⟨⟨n + 1, i, rd, rs, ws, 0, a, c, bk, value, IntKind.i64.wrap (steps + (1 : Int)), asked, wR (1 : Int) (2 : Int) rows, rows⟩, ⟨rfl, rfl, t2 ⟨rfl, rfl, t7 ⟨rfl, rfl, rfl, rfl, rfl, t22 ⟨rfl, rfl, rfl, rfl, rfl, rfl, t16 ⟨rfl, (wN (by omega)), ⟨(mkSure hB (by omega) (by omega) (by first | rfl | exact hW | (simp only [List.length_set]; first | rfl | exact hW))), (And.intro (show (0) < (ws).length by first | omega | (simp only [List.length_map] at *; omega)) (And.intro hrl (rows_mem rows hr8)))⟩, (mN hn), trivial⟩⟩⟩⟩⟩⟩)
                   · intro h27
                     replace h27 := of_decide_eq_false h27
                     first
                     | (exfalso; omega)
                     | (refine ⟨?_, ?_⟩
                        · intro h28
                          replace h28 := of_decide_eq_true h28
                          first
                          | (exfalso; omega)
                          | (exact ⟨⟨n + 1, i, rd, rs, ws, xi, (1 : Int), c, bk, value, IntKind.i64.wrap (steps + (1 : Int)), asked, wR (1 : Int) (2 : Int) rows, rows⟩, ⟨rfl, rfl, t2 ⟨rfl, rfl, t7 ⟨rfl, rfl, rfl, rfl, rfl, t23 ⟨rfl, rfl, rfl, rfl, t16 ⟨rfl, (wN (by omega)), ⟨(mkSure hB (by omega) (by omega) (by first | rfl | exact hW | (simp only [List.length_set]; first | rfl | exact hW))), trivial⟩, (mN hn), trivial⟩⟩⟩⟩⟩⟩)
                        · intro h29
                          replace h29 := of_decide_eq_false h29
                          first
                          | (exfalso; omega)
                          | (exact ⟨⟨n + 1, i, rd, rs, ws, 0, a, c, bk, value, IntKind.i64.wrap (steps + (1 : Int)), asked, wR (1 : Int) (2 : Int) rows, rows⟩, ⟨rfl, rfl, t2 ⟨rfl, rfl, t7 ⟨rfl, rfl, rfl, rfl, rfl, t26 ⟨rfl, rfl, rfl, rfl, rfl, rfl, t16 ⟨rfl, (wN (by omega)), ⟨(mkSure hB (by omega) (by omega) (by first | rfl | exact hW | (simp only [List.length_set]; first | rfl | exact hW))), (And.intro (show (0) < (rows).length by first | omega | (simp only [List.length_map] at *; omega)) (And.intro hrl (rows_mem rows hr8)))⟩, (mN hn), trivial⟩⟩⟩⟩⟩⟩)))))
  · intro h30
    replace h30 := of_decide_eq_false h30
    first
    | (exfalso; omega)
    | (refine ⟨?_, ?_⟩
       · intro h31
         replace h31 := of_decide_eq_true h31
         rw [tak_len] at h31
         first
         | (exfalso; omega)
         | (refine ⟨?_, ?_⟩
            · intro h32
              replace h32 := eq_of_beq h32
              first
              | (exfalso; omega)
              | (exact ⟨⟨0, 0, rows, (1 : Int), steps, IntKind.i64.wrap ((1 : Int) + IntKind.i64.wrap ((IntKind.u64.wrap e).tmod (6 : Int)))⟩, (t2 ⟨rfl, rfl, t25 ⟨rfl, rfl, rfl, rfl, rfl, rfl, rfl, rfl, ⟨hr8, (show (0) ≤ (rows).length by have := rows_len _ hr8; omega), (show (0) + ((rows).length - (0)) + (1 : Nat) ≤ (60 : Nat) by have := rows_len _ hr8; omega)⟩, (show (1000 : Nat) - (0) < (1000000 : Nat) - n by omega), trivial⟩⟩)⟩)
            · intro h33
              replace h33 := ne_of_beq_false h33
              first
              | (exfalso; omega)
              | (exact ⟨⟨0, 0, rows, (1 : Int), steps, IntKind.i64.wrap ((1 : Int) + IntKind.i64.wrap ((IntKind.u64.wrap e).tmod (6 : Int)))⟩, (t2 ⟨rfl, rfl, t25 ⟨rfl, rfl, rfl, rfl, rfl, rfl, rfl, rfl, ⟨hr8, (show (0) ≤ (rows).length by have := rows_len _ hr8; omega), (show (0) + ((rows).length - (0)) + (1 : Nat) ≤ (60 : Nat) by have := rows_len _ hr8; omega)⟩, (show (1000 : Nat) - (0) < (1000000 : Nat) - n by omega), trivial⟩⟩)⟩))
       · intro h34
         replace h34 := of_decide_eq_false h34
         rw [tak_len] at h34
         first
         | (exfalso; omega)
         | (refine ⟨?_, ?_⟩
            · intro h35
              replace h35 := eq_of_beq h35
              first
              | (exfalso; omega)
              | (exact ⟨⟨0, 0, rows, (1 : Int), steps, IntKind.i64.wrap ((1 : Int) + IntKind.i64.wrap ((IntKind.u64.wrap e).tmod (6 : Int)))⟩, (t2 ⟨rfl, rfl, t25 ⟨rfl, rfl, rfl, rfl, rfl, rfl, rfl, rfl, ⟨hr8, (show (0) ≤ (rows).length by have := rows_len _ hr8; omega), (show (0) + ((rows).length - (0)) + (1 : Nat) ≤ (60 : Nat) by have := rows_len _ hr8; omega)⟩, (show (1000 : Nat) - (0) < (1000000 : Nat) - n by omega), trivial⟩⟩)⟩)
            · intro h36
              replace h36 := ne_of_beq_false h36
              first
              | (exfalso; omega)
              | (exact ⟨⟨0, 0, rows, (1 : Int), steps, IntKind.i64.wrap ((1 : Int) + IntKind.i64.wrap ((IntKind.u64.wrap e).tmod (6 : Int)))⟩, (t2 ⟨rfl, rfl, t25 ⟨rfl, rfl, rfl, rfl, rfl, rfl, rfl, rfl, ⟨hr8, (show (0) ≤ (rows).length by have := rows_len _ hr8; omega), (show (0) + ((rows).length - (0)) + (1 : Nat) ≤ (60 : Nat) by have := rows_len _ hr8; omega)⟩, (show (1000 : Nat) - (0) < (1000000 : Nat) - n by omega), trivial⟩⟩)⟩)))
end Go.Proofs.Ytmjjljngaefpaaa

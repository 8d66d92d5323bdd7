/- Tl2Alone: its loops, one step each. -/
import Derived.Test.YtmjjljngaefpaaaAf
namespace Go.Proofs.Ytmjjljngaefpaaa
open Go.RowKit Go.Am Go.Sy
set_option linter.unusedVariables false
set_option linter.unusedSimpArgs false
variable (l p : List Op) (cl : Int) (n i : Nat) (rd rs ws : List Wo) (xi : Nat) (a c bk value steps asked : Int) (W rows : List Int)
theorem al_k12 : Go.Sy.Tree.holds (cA l p cl 18 (q12 p) ⟨n, i, rd, rs, ws, xi, a, c, bk, value, steps, asked, W, rows⟩) = ( (decide ((↑n : Int) < 200) = true → sizeD.pre (mp1, ()) ∧ (decide ((↑(wR (1 : Int) (2 : Int)
 rows).length : Int) < 34) = true → (decide ((↑i : Int) > (↑p.length : Int)) = true → ∃ (s : US), Z2 (wR (1 : Int) (2 : Int) rows = s.W ∧ steps = s.steps ∧ Z7 (rs = s.rs ∧ Q 32 ∧ ws = s.ws ∧ filtT ws = filtT s.ws ∧ asked
 = s.asked ∧ Qn ∧ AVal.int IntKind.i64 1 = AVal.int IntKind.i64 2 ∧ AVal.int IntKind.i64 4 = AVal.int IntKind.i64 0 ∧ value = s.value ∧ (0 : Int) = s.a ∧ (1 : Int) = s.a ∧ p = p ∧ (↑i : Int) = (↑s.i : Int) ∧ constA
 (Value.bool false) = AVal.bool false ∧ Qc 1 ∧ rd = s.rd ∧ IntKind.i64.wrap ((↑n : Int) + 1) = (↑s.n : Int) ∧ ((fun (s : US) => baseW p s ∧ (s.i = p.length + 1 ∧ s.W.length = 34) ∧ doneI s) s ∧ s.n + (fun (s : US) => 0) s
 ≤ 200) ∧ (1000000 : Nat) - s.n < 1000000 - n ∧ True))) ∧ (decide ((↑i : Int) > (↑p.length : Int)) = false → (decide ((↑i : Int) > 0) = true → Bi i p ∧ Bi i p ∧ (((at2 p (IntKind.i64.wrap ((↑i : Int) - 1))).kd == 0) =
 true → Bi i p ∧ Bi i p ∧ (rd.length + [Wo.mk (at2 p (IntKind.i64.wrap ((↑i : Int) - 1))).pl value].length) * 16 ≤ 140737488355328 ∧ Stuck "sel: none") ∧ (((at2 p (IntKind.i64.wrap ((↑i : Int) - 1))).kd == 0) = false →
 Stuck "sel: none")) ∧ (decide ((↑i : Int) > 0) = false → Stuck "sel: none"))) ∧ (decide ((↑(wR (1 : Int) (2 : Int) rows).length : Int) < 34) = false → atD.pre (Rs.mk (32 : Int) rs, (↑xi : Int), ()) ∧ stripeD.pre (mp1,
 (at3 (Rs.mk (32 : Int) rs).ls (↑xi : Int)).pl, ()) ∧ badD.pre (Mw.mk (wR (1 : Int) (2 : Int) rows), (2 : Int) + (at3 (Rs.mk (32 : Int) rs).ls (↑xi : Int)).pl, ()) ∧ ((0 : Int) ≤ 2 + (at3 (Rs.mk (32 : Int) rs).ls (↑xi :
 Int)).pl ∧ (2 : Int) + (at3 (Rs.mk (32 : Int) rs).ls (↑xi : Int)).pl < (↑(wR (1 : Int) (2 : Int) rows).length : Int)) ∧ ((0 : Int) ≤ 2 + (at3 (Rs.mk (32 : Int) rs).ls (↑xi : Int)).pl ∧ (2 : Int) + (at3 (Rs.mk (32 : Int)
 rs).ls (↑xi : Int)).pl < (↑(wR (1 : Int) (2 : Int) rows).length : Int)) ∧ (at0 (wR (1 : Int) (2 : Int) rows) ((2 : Int) + (at3 (Rs.mk (32 : Int) rs).ls (↑xi : Int)).pl) = 0 ∨ at0 (wR (1 : Int) (2 : Int) rows) ((2 : Int)
 + (at3 (Rs.mk (32 : Int) rs).ls (↑xi : Int)).pl) = 2) ∧ ((at0 (wR (1 : Int) (2 : Int) rows) ((2 : Int) + (at3 (Rs.mk (32 : Int) rs).ls (↑xi : Int)).pl) == 0) = true → versionD.pre (at0 (wR (1 : Int) (2 : Int) rows) ((2 :
 Int) + (at3 (Rs.mk (32 : Int) rs).ls (↑xi : Int)).pl), ()) ∧ (decide (IntKind.i64.wrap ((↑xi : Int) + 1) < (↑rs.length : Int)) = true → ((bk == 1) = true → (decide ((0 : Int) < (↑ws.length : Int)) = true → ∃ (s : US), Z2
 (wR (1 : Int) (2 : Int) rows = s.W ∧ IntKind.i64.wrap (steps + 1) = s.steps ∧ Z7 (rs = s.rs ∧ Q 32 ∧ ws = s.ws ∧ filtT ws = filtT s.ws ∧ asked = s.asked ∧ Z22 ((0 : Int) = (↑s.xi : Int) ∧ value = s.value ∧ Z29 (rows =
 s.rows ∧ p = p ∧ (↑i : Int) = (↑s.i : Int) ∧ Z16 (rd = s.rd ∧ IntKind.i64.wrap ((↑n : Int) + 1) = (↑s.n : Int) ∧ ((fun (s : US) => baseW p s ∧ (s.i = p.length + 1 ∧ s.W.length = 34) ∧ writeI s) s ∧ s.n + (fun (s : US) =>
 29 - s.xi) s ≤ 200) ∧ (1000000 : Nat) - s.n < 1000000 - n ∧ True)))))) ∧ (decide ((0 : Int) < (↑ws.length : Int)) = false → (decide ((0 : Int) ≥ (↑rows.length : Int)) = true → ∃ (s : US), Z2 (wR (1 : Int) (2 : Int) rows
 = s.W ∧ IntKind.i64.wrap (steps + 1) = s.steps ∧ Z7 (rs = s.rs ∧ Q 32 ∧ ws = s.ws ∧ filtT ws = filtT s.ws ∧ asked = s.asked ∧ Z23 (value = s.value ∧ Q 0 ∧ (1 : Int) = s.a ∧ p = p ∧ (↑i : Int) = (↑s.i : Int) ∧ Z16 (rd =
 s.rd ∧ IntKind.i64.wrap ((↑n : Int) + 1) = (↑s.n : Int) ∧ ((fun (s : US) => baseW p s ∧ (s.i = p.length + 1 ∧ s.W.length = 34) ∧ leaveI s) s ∧ s.n + (fun (s : US) => 10) s ≤ 200) ∧ (1000000 : Nat) - s.n < 1000000 - n ∧
 True))))) ∧ (decide ((0 : Int) ≥ (↑rows.length : Int)) = false → ∃ (s : US), Z2 (wR (1 : Int) (2 : Int) rows = s.W ∧ IntKind.i64.wrap (steps + 1) = s.steps ∧ Z7 (rs = s.rs ∧ Q 32 ∧ ws = s.ws ∧ filtT ws = filtT s.ws ∧
 asked = s.asked ∧ Z26 ((0 : Int) = (↑s.xi : Int) ∧ value = s.value ∧ Z29 (rows = s.rows ∧ p = p ∧ (↑i : Int) = (↑s.i : Int) ∧ Z16 (rd = s.rd ∧ IntKind.i64.wrap ((↑n : Int) + 1) = (↑s.n : Int) ∧ ((fun (s : US) => baseW p
 s ∧ (s.i = p.length + 1 ∧ s.W.length = 34) ∧ freeI s) s ∧ s.n + (fun (s : US) => 18 - s.xi) s ≤ 200) ∧ (1000000 : Nat) - s.n < 1000000 - n ∧ True)))))))) ∧ ((bk == 1) = false → ∃ (s : US), Z2 (wR (1 : Int) (2 : Int) rows
 = wR (1 : Int) (2 : Int) s.rows ∧ IntKind.i64.wrap (steps + 1) = s.steps ∧ Z8 (c = s.c ∧ Z9 (rs = s.rs ∧ Q 32 ∧ ws = s.ws ∧ filtT ws = filtT s.ws ∧ asked = s.asked ∧ Z30 (IntKind.i64.wrap ((↑xi : Int) + 1) = (↑s.xi :
 Int) ∧ value = s.value ∧ Z29 (bk = s.bk ∧ rows = s.rows ∧ takT rows = takT s.rows ∧ Qb true ∧ p = p ∧ (↑i : Int) = (↑s.i : Int) ∧ Z16 (rd = s.rd ∧ IntKind.i64.wrap ((↑n : Int) + 1) = (↑s.n : Int) ∧ ((fun (s : US) =>
 baseW p s ∧ lateP p s ∧ (fun (s : US) => s.xi < s.rs.length) s) s ∧ s.n + (fun (s : US) => 43 - s.xi) s ≤ 200) ∧ (1000000 : Nat) - s.n < 1000000 - n ∧ True)))))))) ∧ (decide (IntKind.i64.wrap ((↑xi : Int) + 1) <
 (↑rs.length : Int)) = false → (decide ((0 : Int) < (↑ws.length : Int)) = true → ∃ (s : US), Z2 (wR (1 : Int) (2 : Int) rows = s.W ∧ IntKind.i64.wrap (steps + 1) = s.steps ∧ Z7 (rs = s.rs ∧ Q 32 ∧ ws = s.ws ∧ filtT ws =
 filtT s.ws ∧ asked = s.asked ∧ Z22 ((0 : Int) = (↑s.xi : Int) ∧ value = s.value ∧ Z29 (rows = s.rows ∧ p = p ∧ (↑i : Int) = (↑s.i : Int) ∧ Z16 (rd = s.rd ∧ IntKind.i64.wrap ((↑n : Int) + 1) = (↑s.n : Int) ∧ ((fun (s :
 US) => baseW p s ∧ (s.i = p.length + 1 ∧ s.W.length = 34) ∧ writeI s) s ∧ s.n + (fun (s : US) => 29 - s.xi) s ≤ 200) ∧ (1000000 : Nat) - s.n < 1000000 - n ∧ True)))))) ∧ (decide ((0 : Int) < (↑ws.length : Int)) = false →
 (decide ((0 : Int) ≥ (↑rows.length : Int)) = true → ∃ (s : US), Z2 (wR (1 : Int) (2 : Int) rows = s.W ∧ IntKind.i64.wrap (steps + 1) = s.steps ∧ Z7 (rs = s.rs ∧ Q 32 ∧ ws = s.ws ∧ filtT ws = filtT s.ws ∧ asked = s.asked
 ∧ Z23 (value = s.value ∧ Q 0 ∧ (1 : Int) = s.a ∧ p = p ∧ (↑i : Int) = (↑s.i : Int) ∧ Z16 (rd = s.rd ∧ IntKind.i64.wrap ((↑n : Int) + 1) = (↑s.n : Int) ∧ ((fun (s : US) => baseW p s ∧ (s.i = p.length + 1 ∧ s.W.length =
 34) ∧ leaveI s) s ∧ s.n + (fun (s : US) => 10) s ≤ 200) ∧ (1000000 : Nat) - s.n < 1000000 - n ∧ True))))) ∧ (decide ((0 : Int) ≥ (↑rows.length : Int)) = false → ∃ (s : US), Z2 (wR (1 : Int) (2 : Int) rows = s.W ∧
 IntKind.i64.wrap (steps + 1) = s.steps ∧ Z7 (rs = s.rs ∧ Q 32 ∧ ws = s.ws ∧ filtT ws = filtT s.ws ∧ asked = s.asked ∧ Z26 ((0 : Int) = (↑s.xi : Int) ∧ value = s.value ∧ Z29 (rows = s.rows ∧ p = p ∧ (↑i : Int) = (↑s.i :
 Int) ∧ Z16 (rd = s.rd ∧ IntKind.i64.wrap ((↑n : Int) + 1) = (↑s.n : Int) ∧ ((fun (s : US) => baseW p s ∧ (s.i = p.length + 1 ∧ s.W.length = 34) ∧ freeI s) s ∧ s.n + (fun (s : US) => 18 - s.xi) s ≤ 200) ∧ (1000000 : Nat)
 - s.n < 1000000 - n ∧ True))))))))) ∧ ((at0 (wR (1 : Int) (2 : Int) rows) ((2 : Int) + (at3 (Rs.mk (32 : Int) rs).ls (↑xi : Int)).pl) == 0) = false → versionD.pre (at0 (wR (1 : Int) (2 : Int) rows) ((2 : Int) + (at3
 (Rs.mk (32 : Int) rs).ls (↑xi : Int)).pl), ()) ∧ (decide (IntKind.i64.wrap ((↑xi : Int) + 1) < (↑rs.length : Int)) = true → ((bk == 1) = true → (decide ((0 : Int) < (↑ws.length : Int)) = true → ∃ (s : US), Z2 (wR (1 :
 Int) (2 : Int) rows = s.W ∧ IntKind.i64.wrap (steps + 1) = s.steps ∧ Z7 (rs = s.rs ∧ Q 32 ∧ ws = s.ws ∧ filtT ws = filtT s.ws ∧ asked = s.asked ∧ Z22 ((0 : Int) = (↑s.xi : Int) ∧ value = s.value ∧ Z29 (rows = s.rows ∧ p
 = p ∧ (↑i : Int) = (↑s.i : Int) ∧ Z16 (rd = s.rd ∧ IntKind.i64.wrap ((↑n : Int) + 1) = (↑s.n : Int) ∧ ((fun (s : US) => baseW p s ∧ (s.i = p.length + 1 ∧ s.W.length = 34) ∧ writeI s) s ∧ s.n + (fun (s : US) => 29 - s.xi)
 s ≤ 200) ∧ (1000000 : Nat) - s.n < 1000000 - n ∧ True)))))) ∧ (decide ((0 : Int) < (↑ws.length : Int)) = false → (decide ((0 : Int) ≥ (↑rows.length : Int)) = true → ∃ (s : US), Z2 (wR (1 : Int) (2 : Int) rows = s.W ∧
 IntKind.i64.wrap (steps + 1) = s.steps ∧ Z7 (rs = s.rs ∧ Q 32 ∧ ws = s.ws ∧ filtT ws = filtT s.ws ∧ asked = s.asked ∧ Z23 (value = s.value ∧ Q 0 ∧ (1 : Int) = s.a ∧ p = p ∧ (↑i : Int) = (↑s.i : Int) ∧ Z16 (rd = s.rd ∧
 IntKind.i64.wrap ((↑n : Int) + 1) = (↑s.n : Int) ∧ ((fun (s : US) => baseW p s ∧ (s.i = p.length + 1 ∧ s.W.length = 34) ∧ leaveI s) s ∧ s.n + (fun (s : US) => 10) s ≤ 200) ∧ (1000000 : Nat) - s.n < 1000000 - n ∧
 True))))) ∧ (decide ((0 : Int) ≥ (↑rows.length : Int)) = false → ∃ (s : US), Z2 (wR (1 : Int) (2 : Int) rows = s.W ∧ IntKind.i64.wrap (steps + 1) = s.steps ∧ Z7 (rs = s.rs ∧ Q 32 ∧ ws = s.ws ∧ filtT ws = filtT s.ws ∧
 asked = s.asked ∧ Z26 ((0 : Int) = (↑s.xi : Int) ∧ value = s.value ∧ Z29 (rows = s.rows ∧ p = p ∧ (↑i : Int) = (↑s.i : Int) ∧ Z16 (rd = s.rd ∧ IntKind.i64.wrap ((↑n : Int) + 1) = (↑s.n : Int) ∧ ((fun (s : US) => baseW p
 s ∧ (s.i = p.length + 1 ∧ s.W.length = 34) ∧ freeI s) s ∧ s.n + (fun (s : US) => 18 - s.xi) s ≤ 200) ∧ (1000000 : Nat) - s.n < 1000000 - n ∧ True)))))))) ∧ ((bk == 1) = false → ∃ (s : US), Z2 (wR (1 : Int) (2 : Int) rows
 = wR (1 : Int) (2 : Int) s.rows ∧ IntKind.i64.wrap (steps + 1) = s.steps ∧ Z8 (c = s.c ∧ Z9 (rs = s.rs ∧ Q 32 ∧ ws = s.ws ∧ filtT ws = filtT s.ws ∧ asked = s.asked ∧ Z30 (IntKind.i64.wrap ((↑xi : Int) + 1) = (↑s.xi :
 Int) ∧ value = s.value ∧ Z29 (bk = s.bk ∧ rows = s.rows ∧ takT rows = takT s.rows ∧ Qb true ∧ p = p ∧ (↑i : Int) = (↑s.i : Int) ∧ Z16 (rd = s.rd ∧ IntKind.i64.wrap ((↑n : Int) + 1) = (↑s.n : Int) ∧ ((fun (s : US) =>
 baseW p s ∧ lateP p s ∧ (fun (s : US) => s.xi < s.rs.length) s) s ∧ s.n + (fun (s : US) => 43 - s.xi) s ≤ 200) ∧ (1000000 : Nat) - s.n < 1000000 - n ∧ True)))))))) ∧ (decide (IntKind.i64.wrap ((↑xi : Int) + 1) <
 (↑rs.length : Int)) = false → (decide ((0 : Int) < (↑ws.length : Int)) = true → ∃ (s : US), Z2 (wR (1 : Int) (2 : Int) rows = s.W ∧ IntKind.i64.wrap (steps + 1) = s.steps ∧ Z7 (rs = s.rs ∧ Q 32 ∧ ws = s.ws ∧ filtT ws =
 filtT s.ws ∧ asked = s.asked ∧ Z22 ((0 : Int) = (↑s.xi : Int) ∧ value = s.value ∧ Z29 (rows = s.rows ∧ p = p ∧ (↑i : Int) = (↑s.i : Int) ∧ Z16 (rd = s.rd ∧ IntKind.i64.wrap ((↑n : Int) + 1) = (↑s.n : Int) ∧ ((fun (s :
 US) => baseW p s ∧ (s.i = p.length + 1 ∧ s.W.length = 34) ∧ writeI s) s ∧ s.n + (fun (s : US) => 29 - s.xi) s ≤ 200) ∧ (1000000 : Nat) - s.n < 1000000 - n ∧ True)))))) ∧ (decide ((0 : Int) < (↑ws.length : Int)) = false →
 (decide ((0 : Int) ≥ (↑rows.length : Int)) = true → ∃ (s : US), Z2 (wR (1 : Int) (2 : Int) rows = s.W ∧ IntKind.i64.wrap (steps + 1) = s.steps ∧ Z7 (rs = s.rs ∧ Q 32 ∧ ws = s.ws ∧ filtT ws = filtT s.ws ∧ asked = s.asked
 ∧ Z23 (value = s.value ∧ Q 0 ∧ (1 : Int) = s.a ∧ p = p ∧ (↑i : Int) = (↑s.i : Int) ∧ Z16 (rd = s.rd ∧ IntKind.i64.wrap ((↑n : Int) + 1) = (↑s.n : Int) ∧ ((fun (s : US) => baseW p s ∧ (s.i = p.length + 1 ∧ s.W.length =
 34) ∧ leaveI s) s ∧ s.n + (fun (s : US) => 10) s ≤ 200) ∧ (1000000 : Nat) - s.n < 1000000 - n ∧ True))))) ∧ (decide ((0 : Int) ≥ (↑rows.length : Int)) = false → ∃ (s : US), Z2 (wR (1 : Int) (2 : Int) rows = s.W ∧
 IntKind.i64.wrap (steps + 1) = s.steps ∧ Z7 (rs = s.rs ∧ Q 32 ∧ ws = s.ws ∧ filtT ws = filtT s.ws ∧ asked = s.asked ∧ Z26 ((0 : Int) = (↑s.xi : Int) ∧ value = s.value ∧ Z29 (rows = s.rows ∧ p = p ∧ (↑i : Int) = (↑s.i :
 Int) ∧ Z16 (rd = s.rd ∧ IntKind.i64.wrap ((↑n : Int) + 1) = (↑s.n : Int) ∧ ((fun (s : US) => baseW p s ∧ (s.i = p.length + 1 ∧ s.W.length = 34) ∧ freeI s) s ∧ s.n + (fun (s : US) => 18 - s.xi) s ≤ 200) ∧ (1000000 : Nat)
 - s.n < 1000000 - n ∧ True))))))))))) ∧ (decide ((↑n : Int) < 200) = false → keysD.pre (Rs.mk (32 : Int) rs, ()) ∧ ws.length * 16 ≤ 140737488355328 ∧ ∃ (s : US), Z2 (wR (1 : Int) (2 : Int) rows = s.W ∧ steps = s.steps ∧
 AVal.int IntKind.i64 1 = AVal.int IntKind.i64 2 ∧ (0 : Int) = s.a ∧ (1 : Int) = s.a ∧ AVal.int IntKind.i64 0 = AVal.int IntKind.i64 1 ∧ ws = s.ws ∧ Qc 0 ∧ putI (0 : Nat) s ∧ (1000 : Nat) < 1000000 - n ∧ True))) := by
 kernel_rfl
theorem al_k12_ok (l p : List Op) (cl : Int) (s : US) (hI : (q12 p).I s) : Paid (cA l p cl 18 (q12 p) s) := by
  obtain ⟨n, i, rd, rs, ws, xi, a, c, bk, value, steps, asked, W, rows⟩ := s
  obtain ⟨⟨⟨⟨hpO, hc, hi, hrd, hrs, hws, hwd, hrr⟩, hnod⟩, ⟨he, hne, hrow, hbk⟩, hx⟩, hn⟩ := hI
  have he : i = p.length + 1 := he
  have hne : ws ≠ [] := hne
  have hne0 : 0 < ws.length := List.length_pos_iff.2 hne
  have hrow : rows = rowsT (ws.map (·.pl)) := hrow
  have hbk : bk = 1 ∨ bk = 2 := hbk
  have hr8 : rows ∈ L8 := by rw [hrow]; exact rowsT_in _
  have hrl := rows_len rows hr8
  have hx : xi < rs.length := hx
  have hq : 0 ≤ (at3 (Rs.mk (32 : Int) rs).ls (xi : Int)).pl ∧ (at3 (Rs.mk (32 : Int) rs).ls (xi : Int)).pl < 3 := by show 0 ≤ (at3 rs (xi : Int)).pl ∧ (at3 rs (xi : Int)).pl < 3; rw [at3_get hx]; exact hrr _ (List.getElem_mem _)
  have hc : c = 1 ∨ c = 2 := hc
  have hi : i ≤ p.length + 1 := hi
  have hrd : rd.length ≤ i := hrd
  have hrs : rs.length ≤ i := hrs
  have hws : ws.length ≤ i := hws
  have hwd : ∀ w ∈ ws, isData w.pl := hwd
  have hrr : ∀ w ∈ rs, 0 ≤ w.pl ∧ w.pl < 3 := hrr
  have hn : n + (43 - xi) ≤ 200 := hn
  have hp8 := hpO.1
  have hn2 : n < 200 := by omega
  have hB : ∀ {n xi : Nat} {a bk value steps asked : Int} {W rows : List Int}, baseI p ⟨n, i, rd, rs, ws, xi, a, c, bk, value, steps, asked, W, rows⟩ := mkBase hpO hc hi hrd hrs hws hwd hrr
  refine ⟨?_⟩
  rw [al_k12]
  refine ⟨?_, ?_⟩
  · intro h1
    replace h1 := of_decide_eq_true h1
    first
    | (exfalso; omega)
    | (refine ⟨rfl, ?_, ?_⟩
       · intro h2
         exact absurd ((show decide ((↑(wR (1 : Int) (2 : Int) rows).length : Int) < (34 : Int)) = false by kernel_rfl).symm.trans h2) (by decide)
       · intro h3
         replace h3 := of_decide_eq_false h3
         first
         | (exfalso; omega)
         | (refine ⟨(And.intro (show (0 : Int) ≤ (↑xi : Int) by omega) (show (↑xi : Int) < (rs.length : Int) by omega)), (And.intro rfl (And.intro (show (0 : Int) ≤ (at3 (Rs.mk (32 : Int) rs).ls (↑xi : Int)).pl from hq.1) (show (at3 (Rs.mk (32 : Int) rs).ls (↑xi : Int)).pl < (3 : Int) from hq.2))), (And.intro (show (0 : Int) ≤ (2 : Int) + (at3 (Rs.mk (32 : Int) rs).ls (↑xi : Int)).pl from (by have := hq.1; omega)) (show (2 : Int) + (at3 (Rs.mk (32 : Int) rs).ls (↑xi : Int)).pl < ((Mw.mk (wR (1 : Int) (2 : Int) rows)).ws.length : Int) from (show _ < (34 : Int) by have := hq.2; omega))), ?_, ?_, (wR_two hq.1 hq.2 _ _ _), ?_, ?_⟩
            · exact ⟨(by have := hq.1; omega), (show _ < (34 : Int) by have := hq.2; omega)⟩
            · exact ⟨(by have := hq.1; omega), (show _ < (34 : Int) by have := hq.2; omega)⟩
            · intro h4
              refine ⟨(wR_two hq.1 hq.2 _ _ _), ?_, ?_⟩
              · intro h5
                replace h5 := of_decide_eq_true h5
                rw [wN (show xi < 100000000 by omega)] at h5
                first
                | (exfalso; omega)
                | (refine ⟨?_, ?_⟩
                   · intro h6
                     replace h6 := eq_of_beq h6
                     first
                     | (exfalso; omega)
                     | (refine ⟨?_, ?_⟩
                        · intro h7
                          replace h7 := of_decide_eq_true h7
                          first
                          | (exfalso; omega)
                          | (exact ⟨⟨n + 1, i, rd, rs, ws, 0, a, c, bk, value, IntKind.i64.wrap (steps + (1 : Int)), asked, wR (1 : Int) (2 : Int) rows, rows⟩, (t2 ⟨rfl, rfl, t7 ⟨rfl, rfl, rfl, rfl, rfl, t22 ⟨rfl, rfl, t29 ⟨rfl, rfl, rfl, t16 ⟨rfl, (wN (by omega)), ⟨⟨(mkBW hB hnod), ⟨⟨(show i = p.length + 1 by omega), (by first | rfl | exact hW | (simp only [List.length_set]; first | rfl | exact hW))⟩, ⟨(show 0 < (ws).length by omega), (And.intro hrl (rows_mem rows hr8)), (fun j hj => absurd hj (Nat.not_lt_zero j)), keep_of rfl hne⟩⟩⟩, (show (n + 1) + ((29 : Nat) - (0)) ≤ 200 by omega)⟩, (mA hn2), trivial⟩⟩⟩⟩⟩)⟩)
                        · intro h8
                          replace h8 := of_decide_eq_false h8
                          first
                          | (exfalso; omega)
                          | (refine ⟨?_, ?_⟩
                             · intro h9
                               replace h9 := of_decide_eq_true h9
                               first
                               | (exfalso; omega)
                               | (exact ⟨⟨n + 1, i, rd, rs, ws, xi, (1 : Int), c, bk, value, IntKind.i64.wrap (steps + (1 : Int)), asked, wR (1 : Int) (2 : Int) rows, rows⟩, (t2 ⟨rfl, rfl, t7 ⟨rfl, rfl, rfl, rfl, rfl, t23 ⟨rfl, rfl, rfl, rfl, rfl, t16 ⟨rfl, (wN (by omega)), ⟨⟨(mkBW hB hnod), ⟨⟨(show i = p.length + 1 by omega), (by first | rfl | exact hW | (simp only [List.length_set]; first | rfl | exact hW))⟩, (by exfalso; omega)⟩⟩, (show (n + 1) + ((10 : Nat)) ≤ 200 by omega)⟩, (mA hn2), trivial⟩⟩⟩⟩)⟩)
                             · intro h10
                               replace h10 := of_decide_eq_false h10
                               first
                               | (exfalso; omega)
                               | (exact ⟨⟨n + 1, i, rd, rs, ws, 0, a, c, bk, value, IntKind.i64.wrap (steps + (1 : Int)), asked, wR (1 : Int) (2 : Int) rows, rows⟩, (t2 ⟨rfl, rfl, t7 ⟨rfl, rfl, rfl, rfl, rfl, t26 ⟨rfl, rfl, t29 ⟨rfl, rfl, rfl, t16 ⟨rfl, (wN (by omega)), ⟨⟨(mkBW hB hnod), ⟨⟨(show i = p.length + 1 by omega), (by first | rfl | exact hW | (simp only [List.length_set]; first | rfl | exact hW))⟩, (by exfalso; omega)⟩⟩, (show (n + 1) + ((18 : Nat) - (0)) ≤ 200 by omega)⟩, (mA hn2), trivial⟩⟩⟩⟩⟩)⟩)))
                   · intro h11
                     replace h11 := ne_of_beq_false h11
                     first
                     | (exfalso; omega)
                     | (exact ⟨⟨n + 1, i, rd, rs, ws, xi + 1, a, c, bk, value, IntKind.i64.wrap (steps + (1 : Int)), asked, W, rows⟩, (t2 ⟨rfl, rfl, t8 ⟨rfl, t9 ⟨rfl, rfl, rfl, rfl, rfl, t30 ⟨(wN (by omega)), rfl, t29 ⟨rfl, rfl, rfl, rfl, rfl, rfl, t16 ⟨rfl, (wN (by omega)), ⟨⟨(mkBW hB hnod), ⟨⟨(show i = p.length + 1 by omega), hne, hrow, hbk⟩, (show (xi + 1) < (rs).length by first | omega | (simp only [List.length_map] at *; omega))⟩⟩, (show (n + 1) + ((43 : Nat) - (xi + 1)) ≤ 200 by omega)⟩, (mA hn2), trivial⟩⟩⟩⟩⟩⟩)⟩))
              · intro h12
                replace h12 := of_decide_eq_false h12
                rw [wN (show xi < 100000000 by omega)] at h12
                first
                | (exfalso; omega)
                | (refine ⟨?_, ?_⟩
                   · intro h13
                     replace h13 := of_decide_eq_true h13
                     first
                     | (exfalso; omega)
                     | (exact ⟨⟨n + 1, i, rd, rs, ws, 0, a, c, bk, value, IntKind.i64.wrap (steps + (1 : Int)), asked, wR (1 : Int) (2 : Int) rows, rows⟩, (t2 ⟨rfl, rfl, t7 ⟨rfl, rfl, rfl, rfl, rfl, t22 ⟨rfl, rfl, t29 ⟨rfl, rfl, rfl, t16 ⟨rfl, (wN (by omega)), ⟨⟨(mkBW hB hnod), ⟨⟨(show i = p.length + 1 by omega), (by first | rfl | exact hW | (simp only [List.length_set]; first | rfl | exact hW))⟩, ⟨(show 0 < (ws).length by omega), (And.intro hrl (rows_mem rows hr8)), (fun j hj => absurd hj (Nat.not_lt_zero j)), keep_of rfl hne⟩⟩⟩, (show (n + 1) + ((29 : Nat) - (0)) ≤ 200 by omega)⟩, (mA hn2), trivial⟩⟩⟩⟩⟩)⟩)
                   · intro h14
                     replace h14 := of_decide_eq_false h14
                     first
                     | (exfalso; omega)
                     | (refine ⟨?_, ?_⟩
                        · intro h15
                          replace h15 := of_decide_eq_true h15
                          first
                          | (exfalso; omega)
                          | (exact ⟨⟨n + 1, i, rd, rs, ws, xi, (1 : Int), c, bk, value, IntKind.i64.wrap (steps + (1 : Int)), asked, wR (1 : Int) (2 : Int) rows, rows⟩, (t2 ⟨rfl, rfl, t7 ⟨rfl, rfl, rfl, rfl, rfl, t23 ⟨rfl, rfl, rfl, rfl, rfl, t16 ⟨rfl, (wN (by omega)), ⟨⟨(mkBW hB hnod), ⟨⟨(show i = p.length + 1 by omega), (by first | rfl | exact hW | (simp only [List.length_set]; first | rfl | exact hW))⟩, (by exfalso; omega)⟩⟩, (show (n + 1) + ((10 : Nat)) ≤ 200 by omega)⟩, (mA hn2), trivial⟩⟩⟩⟩)⟩)
                        · intro h16
                          replace h16 := of_decide_eq_false h16
                          first
                          | (exfalso; omega)
                          | (exact ⟨⟨n + 1, i, rd, rs, ws, 0, a, c, bk, value, IntKind.i64.wrap (steps + (1 : Int)), asked, wR (1 : Int) (2 : Int) rows, rows⟩, (t2 ⟨rfl, rfl, t7 ⟨rfl, rfl, rfl, rfl, rfl, t26 ⟨rfl, rfl, t29 ⟨rfl, rfl, rfl, t16 ⟨rfl, (wN (by omega)), ⟨⟨(mkBW hB hnod), ⟨⟨(show i = p.length + 1 by omega), (by first | rfl | exact hW | (simp only [List.length_set]; first | rfl | exact hW))⟩, (by exfalso; omega)⟩⟩, (show (n + 1) + ((18 : Nat) - (0)) ≤ 200 by omega)⟩, (mA hn2), trivial⟩⟩⟩⟩⟩)⟩)))
            · intro h17
              refine ⟨(wR_two hq.1 hq.2 _ _ _), ?_, ?_⟩
              · intro h18
                replace h18 := of_decide_eq_true h18
                rw [wN (show xi < 100000000 by omega)] at h18
                first
                | (exfalso; omega)
                | (refine ⟨?_, ?_⟩
                   · intro h19
                     replace h19 := eq_of_beq h19
                     first
                     | (exfalso; omega)
                     | (refine ⟨?_, ?_⟩
                        · intro h20
                          replace h20 := of_decide_eq_true h20
                          first
                          | (exfalso; omega)
                          | (exact ⟨⟨n + 1, i, rd, rs, ws, 0, a, c, bk, value, IntKind.i64.wrap (steps + (1 : Int)), asked, wR (1 : Int) (2 : Int) rows, rows⟩, (t2 ⟨rfl, rfl, t7 ⟨rfl, rfl, rfl, rfl, rfl, t22 ⟨rfl, rfl, t29 ⟨rfl, rfl, rfl, t16 ⟨rfl, (wN (by omega)), ⟨⟨(mkBW hB hnod), ⟨⟨(show i = p.length + 1 by omega), (by first | rfl | exact hW | (simp only [List.length_set]; first | rfl | exact hW))⟩, ⟨(show 0 < (ws).length by omega), (And.intro hrl (rows_mem rows hr8)), (fun j hj => absurd hj (Nat.not_lt_zero j)), keep_of rfl hne⟩⟩⟩, (show (n + 1) + ((29 : Nat) - (0)) ≤ 200 by omega)⟩, (mA hn2), trivial⟩⟩⟩⟩⟩)⟩)
                        · intro h21
                          replace h21 := of_decide_eq_false h21
                          first
                          | (exfalso; omega)
                          | (refine ⟨?_, ?_⟩
                             · intro h22
                               replace h22 := of_decide_eq_true h22
                               first
                               | (exfalso; omega)
                               | (exact ⟨⟨n + 1, i, rd, rs, ws, xi, (1 : Int), c, bk, value, IntKind.i64.wrap (steps + (1 : Int)), asked, wR (1 : Int) (2 : Int) rows, rows⟩, (t2 ⟨rfl, rfl, t7 ⟨rfl, rfl, rfl, rfl, rfl, t23 ⟨rfl, rfl, rfl, rfl, rfl, t16 ⟨rfl, (wN (by omega)), ⟨⟨(mkBW hB hnod), ⟨⟨(show i = p.length + 1 by omega), (by first | rfl | exact hW | (simp only [List.length_set]; first | rfl | exact hW))⟩, (by exfalso; omega)⟩⟩, (show (n + 1) + ((10 : Nat)) ≤ 200 by omega)⟩, (mA hn2), trivial⟩⟩⟩⟩)⟩)
                             · intro h23
                               replace h23 := of_decide_eq_false h23
                               first
                               | (exfalso; omega)
                               | (exact ⟨⟨n + 1, i, rd, rs, ws, 0, a, c, bk, value, IntKind.i64.wrap (steps + (1 : Int)), asked, wR (1 : Int) (2 : Int) rows, rows⟩, (t2 ⟨rfl, rfl, t7 ⟨rfl, rfl, rfl, rfl, rfl, t26 ⟨rfl, rfl, t29 ⟨rfl, rfl, rfl, t16 ⟨rfl, (wN (by omega)), ⟨⟨(mkBW hB hnod), ⟨⟨(show i = p.length + 1 by omega), (by first | rfl | exact hW | (simp only [List.length_set]; first | rfl | exact hW))⟩, (by exfalso; omega)⟩⟩, (show (n + 1) + ((18 : Nat) - (0)) ≤ 200 by omega)⟩, (mA hn2), trivial⟩⟩⟩⟩⟩)⟩)))
                   · intro h24
                     replace h24 := ne_of_beq_false h24
                     first
                     | (exfalso; omega)
                     | (exact ⟨⟨n + 1, i, rd, rs, ws, xi + 1, a, c, bk, value, IntKind.i64.wrap (steps + (1 : Int)), asked, W, rows⟩, (t2 ⟨rfl, rfl, t8 ⟨rfl, t9 ⟨rfl, rfl, rfl, rfl, rfl, t30 ⟨(wN (by omega)), rfl, t29 ⟨rfl, rfl, rfl, rfl, rfl, rfl, t16 ⟨rfl, (wN (by omega)), ⟨⟨(mkBW hB hnod), ⟨⟨(show i = p.length + 1 by omega), hne, hrow, hbk⟩, (show (xi + 1) < (rs).length by first | omega | (simp only [List.length_map] at *; omega))⟩⟩, (show (n + 1) + ((43 : Nat) - (xi + 1)) ≤ 200 by omega)⟩, (mA hn2), trivial⟩⟩⟩⟩⟩⟩)⟩))
              · intro h25
                replace h25 := of_decide_eq_false h25
                rw [wN (show xi < 100000000 by omega)] at h25
                first
                | (exfalso; omega)
                | (refine ⟨?_, ?_⟩
                   · intro h26
                     replace h26 := of_decide_eq_true h26
                     first
                     | (exfalso; omega)
                     | (exact ⟨⟨n + 1, i, rd, rs, ws, 0, a, c, bk, value, IntKind.i64.wrap (steps + (1 : Int)), asked, wR (1 : Int) (2 : Int) rows, rows⟩, (t2 ⟨rfl, rfl, t7 ⟨rfl, rfl, rfl, rfl, rfl, t22 ⟨rfl, rfl, t29 ⟨rfl, rfl, rfl, t16 ⟨rfl, (wN (by omega)), ⟨⟨(mkBW hB hnod), ⟨⟨(show i = p.length + 1 by omega), (by first | rfl | exact hW | (simp only [List.length_set]; first | rfl | exact hW))⟩, ⟨(show 0 < (ws).length by omega), (And.intro hrl (rows_mem rows hr8)), (fun j hj => absurd hj (Nat.not_lt_zero j)), keep_of rfl hne⟩⟩⟩, (show (n + 1) + ((29 : Nat) - (0)) ≤ 200 by omega)⟩, (mA hn2), trivial⟩⟩⟩⟩⟩)⟩)
                   · intro h27
                     replace h27 := of_decide_eq_false h27
                     first
                     | (exfalso; omega)
                     | (refine ⟨?_, ?_⟩
                        · intro h28
                          replace h28 := of_decide_eq_true h28
                          first
                          | (exfalso; omega)
                          | (exact ⟨⟨n + 1, i, rd, rs, ws, xi, (1 : Int), c, bk, value, IntKind.i64.wrap (steps + (1 : Int)), asked, wR (1 : Int) (2 : Int) rows, rows⟩, (t2 ⟨rfl, rfl, t7 ⟨rfl, rfl, rfl, rfl, rfl, t23 ⟨rfl, rfl, rfl, rfl, rfl, t16 ⟨rfl, (wN (by omega)), ⟨⟨(mkBW hB hnod), ⟨⟨(show i = p.length + 1 by omega), (by first | rfl | exact hW | (simp only [List.length_set]; first | rfl | exact hW))⟩, (by exfalso; omega)⟩⟩, (show (n + 1) + ((10 : Nat)) ≤ 200 by omega)⟩, (mA hn2), trivial⟩⟩⟩⟩)⟩)
                        · intro h29
                          replace h29 := of_decide_eq_false h29
                          first
                          | (exfalso; omega)
                          | (exact ⟨⟨n + 1, i, rd, rs, ws, 0, a, c, bk, value, IntKind.i64.wrap (steps + (1 : Int)), asked, wR (1 : Int) (2 : Int) rows, rows⟩, (t2 ⟨rfl, rfl, t7 ⟨rfl, rfl, rfl, rfl, rfl, t26 ⟨rfl, rfl, t29 ⟨rfl, rfl, rfl, t16 ⟨rfl, (wN (by omega)), ⟨⟨(mkBW hB hnod), ⟨⟨(show i = p.length + 1 by omega), (by first | rfl | exact hW | (simp only [List.length_set]; first | rfl | exact hW))⟩, (by exfalso; omega)⟩⟩, (show (n + 1) + ((18 : Nat) - (0)) ≤ 200 by omega)⟩, (mA hn2), trivial⟩⟩⟩⟩⟩)⟩)))))
  · intro h30
    exact absurd (of_decide_eq_false h30) (by omega)
theorem al_k13 : Go.Sy.Tree.holds (cA l p cl 18 (q13 p) ⟨n, i, rd, rs, ws, xi, a, c, bk, value, steps, asked, W, rows⟩) = ( (decide ((↑n : Int) < 200) = true → sizeD.pre (mp1, ()) ∧ (decide ((↑W.length : Int) < 34) = true
 → (decide ((↑i : Int) > (↑p.length : Int)) = true → ∃ (s : US), Z2 (W = s.W ∧ steps = s.steps ∧ Z7 (rs = s.rs ∧ Q 32 ∧ ws = s.ws ∧ filtT ws = filtT s.ws ∧ asked = s.asked ∧ Z31 (AVal.int IntKind.i64 4 = AVal.int
 IntKind.i64 0 ∧ value = s.value ∧ (0 : Int) = s.a ∧ (1 : Int) = s.a ∧ p = p ∧ (↑i : Int) = (↑s.i : Int) ∧ constA (Value.bool false) = AVal.bool false ∧ Qc 1 ∧ rd = s.rd ∧ IntKind.i64.wrap ((↑n : Int) + 1) = (↑s.n : Int)
 ∧ ((fun (s : US) => baseW p s ∧ (s.i = p.length + 1 ∧ s.W.length = 34) ∧ doneI s) s ∧ s.n + (fun (s : US) => 0) s ≤ 200) ∧ (1000000 : Nat) - s.n < 1000000 - n ∧ True)))) ∧ (decide ((↑i : Int) > (↑p.length : Int)) = false
 → (decide ((↑i : Int) > 0) = true → Bi i p ∧ Bi i p ∧ (((at2 p (IntKind.i64.wrap ((↑i : Int) - 1))).kd == 0) = true → Bi i p ∧ Bi i p ∧ (rd.length + [Wo.mk (at2 p (IntKind.i64.wrap ((↑i : Int) - 1))).pl value].length) *
 16 ≤ 140737488355328 ∧ Stuck "sel: none") ∧ (((at2 p (IntKind.i64.wrap ((↑i : Int) - 1))).kd == 0) = false → Stuck "sel: none")) ∧ (decide ((↑i : Int) > 0) = false → Stuck "sel: none"))) ∧ (decide ((↑W.length : Int) <
 34) = false → ws.length * 16 ≤ 140737488355328 ∧ ((0 : Int) ≤ (↑xi : Int) ∧ (↑xi : Int) < (↑ws.length : Int)) ∧ ((0 : Int) ≤ (↑xi : Int) ∧ (↑xi : Int) < (↑ws.length : Int)) ∧ badD.pre (Mw.mk W, (at3 ws (↑xi : Int)).pl,
 ()) ∧ ((0 : Int) ≤ (at3 ws (↑xi : Int)).pl ∧ (at3 ws (↑xi : Int)).pl < (↑W.length : Int)) ∧ ((0 : Int) ≤ (at3 ws (↑xi : Int)).pl ∧ (at3 ws (↑xi : Int)).pl < (↑W.length : Int)) ∧ ((0 : Int) ≤ (at3 ws (↑xi : Int)).pl ∧
 (at3 ws (↑xi : Int)).pl < (↑W.length : Int)) ∧ ((0 : Int) ≤ (at3 ws (↑xi : Int)).pl ∧ (at3 ws (↑xi : Int)).pl < (↑W.length : Int)) ∧ (decide (IntKind.i64.wrap ((↑xi : Int) + 1) < (↑ws.length : Int)) = true → ∃ (s : US),
 Z2 (W.set (at3 ws (↑xi : Int)).pl.toNat (at3 ws (↑xi : Int)).vl = s.W ∧ IntKind.i64.wrap (steps + 1) = s.steps ∧ Z7 (rs = s.rs ∧ Q 32 ∧ ws = s.ws ∧ filtT ws = filtT s.ws ∧ asked = s.asked ∧ Z32 (IntKind.i64.wrap ((↑xi :
 Int) + 1) = (↑s.xi : Int) ∧ value = s.value ∧ Z29 (rows = s.rows ∧ p = p ∧ (↑i : Int) = (↑s.i : Int) ∧ Z16 (rd = s.rd ∧ IntKind.i64.wrap ((↑n : Int) + 1) = (↑s.n : Int) ∧ ((fun (s : US) => baseW p s ∧ (s.i = p.length + 1
 ∧ s.W.length = 34) ∧ writeI s) s ∧ s.n + (fun (s : US) => 29 - s.xi) s ≤ 200) ∧ (1000000 : Nat) - s.n < 1000000 - n ∧ True)))))) ∧ (decide (IntKind.i64.wrap ((↑xi : Int) + 1) < (↑ws.length : Int)) = false → (decide ((0 :
 Int) ≥ (↑rows.length : Int)) = true → ∃ (s : US), Z2 (W.set (at3 ws (↑xi : Int)).pl.toNat (at3 ws (↑xi : Int)).vl = s.W ∧ IntKind.i64.wrap (steps + 1) = s.steps ∧ Z7 (rs = s.rs ∧ Q 32 ∧ ws = s.ws ∧ filtT ws = filtT s.ws
 ∧ asked = s.asked ∧ Z33 (value = s.value ∧ Q 0 ∧ (1 : Int) = s.a ∧ p = p ∧ (↑i : Int) = (↑s.i : Int) ∧ Z16 (rd = s.rd ∧ IntKind.i64.wrap ((↑n : Int) + 1) = (↑s.n : Int) ∧ ((fun (s : US) => baseW p s ∧ (s.i = p.length + 1
 ∧ s.W.length = 34) ∧ leaveI s) s ∧ s.n + (fun (s : US) => 10) s ≤ 200) ∧ (1000000 : Nat) - s.n < 1000000 - n ∧ True))))) ∧ (decide ((0 : Int) ≥ (↑rows.length : Int)) = false → ∃ (s : US), Z2 (W.set (at3 ws (↑xi :
 Int)).pl.toNat (at3 ws (↑xi : Int)).vl = s.W ∧ IntKind.i64.wrap (steps + 1) = s.steps ∧ Z7 (rs = s.rs ∧ Q 32 ∧ ws = s.ws ∧ filtT ws = filtT s.ws ∧ asked = s.asked ∧ Z34 ((0 : Int) = (↑s.xi : Int) ∧ value = s.value ∧ Z29
 (rows = s.rows ∧ p = p ∧ (↑i : Int) = (↑s.i : Int) ∧ Z16 (rd = s.rd ∧ IntKind.i64.wrap ((↑n : Int) + 1) = (↑s.n : Int) ∧ ((fun (s : US) => baseW p s ∧ (s.i = p.length + 1 ∧ s.W.length = 34) ∧ freeI s) s ∧ s.n + (fun (s :
 US) => 18 - s.xi) s ≤ 200) ∧ (1000000 : Nat) - s.n < 1000000 - n ∧ True))))))))) ∧ (decide ((↑n : Int) < 200) = false → keysD.pre (Rs.mk (32 : Int) rs, ()) ∧ ws.length * 16 ≤ 140737488355328 ∧ ∃ (s : US), Z2 (W = s.W ∧
 steps = s.steps ∧ Q 2 ∧ (0 : Int) = s.a ∧ (1 : Int) = s.a ∧ AVal.int IntKind.i64 0 = AVal.int IntKind.i64 1 ∧ ws = s.ws ∧ Qc 0 ∧ putI (0 : Nat) s ∧ (1000 : Nat) < 1000000 - n ∧ True))) := by kernel_rfl
theorem al_k13_ok (l p : List Op) (cl : Int) (s : US) (hI : (q13 p).I s) : Paid (cA l p cl 18 (q13 p) s) := by
  obtain ⟨n, i, rd, rs, ws, xi, a, c, bk, value, steps, asked, W, rows⟩ := s
  obtain ⟨⟨⟨⟨hpO, hc, hi, hrd, hrs, hws, hwd, hrr⟩, hnod⟩, ⟨he, hW⟩, hx⟩, hn⟩ := hI
  have he : i = p.length + 1 := he
  have hW : W.length = 34 := hW
  obtain ⟨hx, hrin, hdone, hkeep⟩ := hx
  have hrl : rows.length ≤ 3 := hrin.1
  have hx : xi < ws.length := hx
  have hv : isData (at3 ws (xi : Int)).pl := by rw [at3_get hx]; exact hwd _ (List.getElem_mem _)
  have hdone : DoneL xi ws W := hdone
  have hkeep : KeepL ws W := hkeep
  have hne : ws ≠ [] := List.ne_nil_of_length_pos (by omega)
  have hc : c = 1 ∨ c = 2 := hc
  have hi : i ≤ p.length + 1 := hi
  have hrd : rd.length ≤ i := hrd
  have hrs : rs.length ≤ i := hrs
  have hws : ws.length ≤ i := hws
  have hwd : ∀ w ∈ ws, isData w.pl := hwd
  have hrr : ∀ w ∈ rs, 0 ≤ w.pl ∧ w.pl < 3 := hrr
  have hn : n + (29 - xi) ≤ 200 := hn
  have hp8 := hpO.1
  have hn2 : n < 200 := by omega
  have hB : ∀ {n xi : Nat} {a bk value steps asked : Int} {W rows : List Int}, baseI p ⟨n, i, rd, rs, ws, xi, a, c, bk, value, steps, asked, W, rows⟩ := mkBase hpO hc hi hrd hrs hws hwd hrr
  refine ⟨?_⟩
  rw [al_k13]
  refine ⟨?_, ?_⟩
  · intro h1
    replace h1 := of_decide_eq_true h1
    first
    | (exfalso; omega)
    | (refine ⟨rfl, ?_, ?_⟩
       · intro h2
         replace h2 := of_decide_eq_true h2
         first
         | (exfalso; omega)
         | (refine ⟨?_, ?_⟩
            · intro h3
              replace h3 := of_decide_eq_true h3
              first
              | (exfalso; omega)
              | (omega)
            · intro h4
              replace h4 := of_decide_eq_false h4
              first
              | (exfalso; omega)
              | (refine ⟨?_, ?_⟩
                 · intro h5
                   replace h5 := of_decide_eq_true h5
                   first
                   | (exfalso; omega)
                   | (refine ⟨?_, ?_, ?_, ?_⟩
                      · exact ⟨(by rw [wM (by omega)]; omega), (by rw [wM (by omega)]; omega)⟩
                      · exact ⟨(by rw [wM (by omega)]; omega), (by rw [wM (by omega)]; omega)⟩
                      · intro h6
                        refine ⟨?_, ?_, (by simp only [List.length_cons, List.length_nil, tak_len] at *; first | omega | (have := rows_take rows hr8 xi (by omega); have := rows_len _ this; omega)), ?_⟩
                        · exact ⟨(by rw [wM (by omega)]; omega), (by rw [wM (by omega)]; omega)⟩
                        · exact ⟨(by rw [wM (by omega)]; omega), (by rw [wM (by omega)]; omega)⟩
                        · exfalso; omega
                      · intro h7
                        exfalso; omega)
                 · intro h8
                   replace h8 := of_decide_eq_false h8
                   first
                   | (exfalso; omega)
                   | (exfalso; omega)))
       · intro h9
         replace h9 := of_decide_eq_false h9
         first
         | (exfalso; omega)
         | (refine ⟨(by omega), ?_, ?_, (And.intro (show (0 : Int) ≤ (at3 ws (↑xi : Int)).pl from (data_lt hv).1) (show (at3 ws (↑xi : Int)).pl < ((Mw.mk W).ws.length : Int) from (by rw [hW]; exact (data_lt hv).2))), ?_, ?_, ?_, ?_, ?_, ?_⟩
            · exact ⟨(by omega), (by first | omega | (simp only [tak_len] at *; omega))⟩
            · exact ⟨(by omega), (by first | omega | (simp only [tak_len] at *; omega))⟩
            · exact ⟨(data_lt hv).1, (by rw [hW]; exact (data_lt hv).2)⟩
            · exact ⟨(data_lt hv).1, (by rw [hW]; exact (data_lt hv).2)⟩
            · exact ⟨(data_lt hv).1, (by rw [hW]; exact (data_lt hv).2)⟩
            · exact ⟨(data_lt hv).1, (by rw [hW]; exact (data_lt hv).2)⟩
            · intro h10
              replace h10 := of_decide_eq_true h10
              rw [wN (show xi < 100000000 by omega)] at h10
              first
              | (exfalso; omega)
              | (exact ⟨⟨n + 1, i, rd, rs, ws, xi + 1, a, c, bk, value, IntKind.i64.wrap (steps + (1 : Int)), asked, W.set (at3 ws (↑xi : Int)).pl.toNat (at3 ws (↑xi : Int)).vl, rows⟩, (t2 ⟨rfl, rfl, t7 ⟨rfl, rfl, rfl, rfl, rfl, t32 ⟨(wN (by omega)), rfl, t29 ⟨rfl, rfl, rfl, t16 ⟨rfl, (wN (by omega)), ⟨⟨(mkBW hB hnod), ⟨⟨(show i = p.length + 1 by omega), (by first | rfl | exact hW | (simp only [List.length_set]; first | rfl | exact hW))⟩, ⟨(show xi + 1 < (ws).length by omega), hrin, done_step hW hwd hnod hdone hx, keep_put hW hwd hkeep hx⟩⟩⟩, (show (n + 1) + ((29 : Nat) - (xi + 1)) ≤ 200 by omega)⟩, (mA hn2), trivial⟩⟩⟩⟩⟩)⟩)
            · intro h11
              replace h11 := of_decide_eq_false h11
              rw [wN (show xi < 100000000 by omega)] at h11
              first
              | (exfalso; omega)
              | (refine ⟨?_, ?_⟩
                 · intro h12
                   replace h12 := of_decide_eq_true h12
                   first
                   | (exfalso; omega)
                   | (exact ⟨⟨n + 1, i, rd, rs, ws, xi, (1 : Int), c, bk, value, IntKind.i64.wrap (steps + (1 : Int)), asked, W.set (at3 ws (↑xi : Int)).pl.toNat (at3 ws (↑xi : Int)).vl, rows⟩, (t2 ⟨rfl, rfl, t7 ⟨rfl, rfl, rfl, rfl, rfl, t33 ⟨rfl, rfl, rfl, rfl, rfl, t16 ⟨rfl, (wN (by omega)), ⟨⟨(mkBW hB hnod), ⟨⟨(show i = p.length + 1 by omega), (by first | rfl | exact hW | (simp only [List.length_set]; first | rfl | exact hW))⟩, ⟨done_all (done_step hW hwd hnod hdone hx) (show ws.length ≤ xi + 1 by omega), keep_put hW hwd hkeep hx, made_one hne⟩⟩⟩, (show (n + 1) + ((10 : Nat)) ≤ 200 by omega)⟩, (mA hn2), trivial⟩⟩⟩⟩)⟩)
                 · intro h13
                   replace h13 := of_decide_eq_false h13
                   first
                   | (exfalso; omega)
                   | (exact ⟨⟨n + 1, i, rd, rs, ws, 0, a, c, bk, value, IntKind.i64.wrap (steps + (1 : Int)), asked, W.set (at3 ws (↑xi : Int)).pl.toNat (at3 ws (↑xi : Int)).vl, rows⟩, (t2 ⟨rfl, rfl, t7 ⟨rfl, rfl, rfl, rfl, rfl, t34 ⟨rfl, rfl, t29 ⟨rfl, rfl, rfl, t16 ⟨rfl, (wN (by omega)), ⟨⟨(mkBW hB hnod), ⟨⟨(show i = p.length + 1 by omega), (by first | rfl | exact hW | (simp only [List.length_set]; first | rfl | exact hW))⟩, ⟨(show 0 < (rows).length by omega), hrin, done_all (done_step hW hwd hnod hdone hx) (show ws.length ≤ xi + 1 by omega), keep_put hW hwd hkeep hx, hne⟩⟩⟩, (show (n + 1) + ((18 : Nat) - (0)) ≤ 200 by omega)⟩, (mA hn2), trivial⟩⟩⟩⟩⟩)⟩))))
  · intro h14
    exact absurd (of_decide_eq_false h14) (by omega)
theorem al_k14 : Go.Sy.Tree.holds (cA l p cl 18 (q14 p) ⟨n, i, rd, rs, ws, xi, a, c, bk, value, steps, asked, W, rows⟩) = ( (decide ((↑n : Int) < 200) = true → sizeD.pre (mp1, ()) ∧ (decide ((↑W.length : Int) < 34) = true
 → (decide ((↑i : Int) > (↑p.length : Int)) = true → ∃ (s : US), Z2 (W = s.W ∧ steps = s.steps ∧ Z7 (rs = s.rs ∧ Q 32 ∧ ws = s.ws ∧ filtT ws = filtT s.ws ∧ asked = s.asked ∧ Z31 (AVal.int IntKind.i64 4 = AVal.int
 IntKind.i64 0 ∧ value = s.value ∧ (0 : Int) = s.a ∧ (1 : Int) = s.a ∧ p = p ∧ (↑i : Int) = (↑s.i : Int) ∧ constA (Value.bool false) = AVal.bool false ∧ Qc 1 ∧ rd = s.rd ∧ IntKind.i64.wrap ((↑n : Int) + 1) = (↑s.n : Int)
 ∧ ((fun (s : US) => baseW p s ∧ (s.i = p.length + 1 ∧ s.W.length = 34) ∧ doneI s) s ∧ s.n + (fun (s : US) => 0) s ≤ 200) ∧ (1000000 : Nat) - s.n < 1000000 - n ∧ True)))) ∧ (decide ((↑i : Int) > (↑p.length : Int)) = false
 → (decide ((↑i : Int) > 0) = true → Bi i p ∧ Bi i p ∧ (((at2 p (IntKind.i64.wrap ((↑i : Int) - 1))).kd == 0) = true → Bi i p ∧ Bi i p ∧ (rd.length + [Wo.mk (at2 p (IntKind.i64.wrap ((↑i : Int) - 1))).pl value].length) *
 16 ≤ 140737488355328 ∧ Stuck "sel: none") ∧ (((at2 p (IntKind.i64.wrap ((↑i : Int) - 1))).kd == 0) = false → Stuck "sel: none")) ∧ (decide ((↑i : Int) > 0) = false → Stuck "sel: none"))) ∧ (decide ((↑W.length : Int) <
 34) = false → ((0 : Int) ≤ (↑xi : Int) ∧ (↑xi : Int) < (↑rows.length : Int)) ∧ ((0 : Int) ≤ (↑xi : Int) ∧ (↑xi : Int) < (↑rows.length : Int)) ∧ stripeD.pre (mp1, at0 rows (↑xi : Int), ()) ∧ freeD.pre ((1 : Int), ()) ∧
 badD.pre (Mw.mk W, (2 : Int) + at0 rows (↑xi : Int), ()) ∧ ((0 : Int) ≤ 2 + at0 rows (↑xi : Int) ∧ (2 : Int) + at0 rows (↑xi : Int) < (↑W.length : Int)) ∧ ((0 : Int) ≤ 2 + at0 rows (↑xi : Int) ∧ (2 : Int) + at0 rows (↑xi
 : Int) < (↑W.length : Int)) ∧ ((0 : Int) ≤ 2 + at0 rows (↑xi : Int) ∧ (2 : Int) + at0 rows (↑xi : Int) < (↑W.length : Int)) ∧ ((0 : Int) ≤ 2 + at0 rows (↑xi : Int) ∧ (2 : Int) + at0 rows (↑xi : Int) < (↑W.length : Int))
 ∧ (decide (IntKind.i64.wrap ((↑xi : Int) + 1) ≥ (↑rows.length : Int)) = true → ∃ (s : US), Z2 (W.set ((2 : Int) + at0 rows (↑xi : Int)).toNat (16 : Int) = s.W ∧ IntKind.i64.wrap (steps + 1) = s.steps ∧ Z7 (rs = s.rs ∧ Q
 32 ∧ ws = s.ws ∧ filtT ws = filtT s.ws ∧ asked = s.asked ∧ Z33 (value = s.value ∧ Q 0 ∧ (1 : Int) = s.a ∧ p = p ∧ (↑i : Int) = (↑s.i : Int) ∧ Z16 (rd = s.rd ∧ IntKind.i64.wrap ((↑n : Int) + 1) = (↑s.n : Int) ∧ ((fun (s :
 US) => baseW p s ∧ (s.i = p.length + 1 ∧ s.W.length = 34) ∧ leaveI s) s ∧ s.n + (fun (s : US) => 10) s ≤ 200) ∧ (1000000 : Nat) - s.n < 1000000 - n ∧ True))))) ∧ (decide (IntKind.i64.wrap ((↑xi : Int) + 1) ≥
 (↑rows.length : Int)) = false → ∃ (s : US), Z2 (W.set ((2 : Int) + at0 rows (↑xi : Int)).toNat (16 : Int) = s.W ∧ IntKind.i64.wrap (steps + 1) = s.steps ∧ Z7 (rs = s.rs ∧ Q 32 ∧ ws = s.ws ∧ filtT ws = filtT s.ws ∧ asked
 = s.asked ∧ Z35 (IntKind.i64.wrap ((↑xi : Int) + 1) = (↑s.xi : Int) ∧ value = s.value ∧ Z29 (rows = s.rows ∧ p = p ∧ (↑i : Int) = (↑s.i : Int) ∧ Z16 (rd = s.rd ∧ IntKind.i64.wrap ((↑n : Int) + 1) = (↑s.n : Int) ∧ ((fun
 (s : US) => baseW p s ∧ (s.i = p.length + 1 ∧ s.W.length = 34) ∧ freeI s) s ∧ s.n + (fun (s : US) => 18 - s.xi) s ≤ 200) ∧ (1000000 : Nat) - s.n < 1000000 - n ∧ True)))))))) ∧ (decide ((↑n : Int) < 200) = false →
 keysD.pre (Rs.mk (32 : Int) rs, ()) ∧ ws.length * 16 ≤ 140737488355328 ∧ ∃ (s : US), Z2 (W = s.W ∧ steps = s.steps ∧ Q 2 ∧ (0 : Int) = s.a ∧ (1 : Int) = s.a ∧ AVal.int IntKind.i64 0 = AVal.int IntKind.i64 1 ∧ ws = s.ws ∧
 Qc 0 ∧ putI (0 : Nat) s ∧ (1000 : Nat) < 1000000 - n ∧ True))) := by kernel_rfl
theorem al_k14_ok (l p : List Op) (cl : Int) (s : US) (hI : (q14 p).I s) : Paid (cA l p cl 18 (q14 p) s) := by
  obtain ⟨n, i, rd, rs, ws, xi, a, c, bk, value, steps, asked, W, rows⟩ := s
  obtain ⟨⟨⟨⟨hpO, hc, hi, hrd, hrs, hws, hwd, hrr⟩, hnod⟩, ⟨he, hW⟩, hx⟩, hn⟩ := hI
  have he : i = p.length + 1 := he
  have hW : W.length = 34 := hW
  obtain ⟨hx, hrin, hdone, hkeep, hne⟩ := hx
  have hrl : rows.length ≤ 3 := hrin.1
  have hx : xi < rows.length := hx
  have hr : 0 ≤ at0 rows (xi : Int) ∧ at0 rows (xi : Int) < 3 := by rw [at0_get hx]; exact hrin.2 _ (List.getElem_mem _)
  have hdone : DoneL 100 ws W := hdone
  have hkeep : KeepL ws W := hkeep
  have hne : ws ≠ [] := hne
  have hc : c = 1 ∨ c = 2 := hc
  have hi : i ≤ p.length + 1 := hi
  have hrd : rd.length ≤ i := hrd
  have hrs : rs.length ≤ i := hrs
  have hws : ws.length ≤ i := hws
  have hwd : ∀ w ∈ ws, isData w.pl := hwd
  have hrr : ∀ w ∈ rs, 0 ≤ w.pl ∧ w.pl < 3 := hrr
  have hn : n + (18 - xi) ≤ 200 := hn
  have hp8 := hpO.1
  have hn2 : n < 200 := by omega
  have hB : ∀ {n xi : Nat} {a bk value steps asked : Int} {W rows : List Int}, baseI p ⟨n, i, rd, rs, ws, xi, a, c, bk, value, steps, asked, W, rows⟩ := mkBase hpO hc hi hrd hrs hws hwd hrr
  refine ⟨?_⟩
  rw [al_k14]
  refine ⟨?_, ?_⟩
  · intro h1
    replace h1 := of_decide_eq_true h1
    first
    | (exfalso; omega)
    | (refine ⟨rfl, ?_, ?_⟩
       · intro h2
         replace h2 := of_decide_eq_true h2
         first
         | (exfalso; omega)
         | (refine ⟨?_, ?_⟩
            · intro h3
              replace h3 := of_decide_eq_true h3
              first
              | (exfalso; omega)
              | (omega)
            · intro h4
              replace h4 := of_decide_eq_false h4
              first
              | (exfalso; omega)
              | (refine ⟨?_, ?_⟩
                 · intro h5
                   replace h5 := of_decide_eq_true h5
                   first
                   | (exfalso; omega)
                   | (refine ⟨?_, ?_, ?_, ?_⟩
                      · exact ⟨(by rw [wM (by omega)]; omega), (by rw [wM (by omega)]; omega)⟩
                      · exact ⟨(by rw [wM (by omega)]; omega), (by rw [wM (by omega)]; omega)⟩
                      · intro h6
                        refine ⟨?_, ?_, (by simp only [List.length_cons, List.length_nil, tak_len] at *; first | omega | (have := rows_take rows hr8 xi (by omega); have := rows_len _ this; omega)), ?_⟩
                        · exact ⟨(by rw [wM (by omega)]; omega), (by rw [wM (by omega)]; omega)⟩
                        · exact ⟨(by rw [wM (by omega)]; omega), (by rw [wM (by omega)]; omega)⟩
                        · exfalso; omega
                      · intro h7
                        exfalso; omega)
                 · intro h8
                   replace h8 := of_decide_eq_false h8
                   first
                   | (exfalso; omega)
                   | (exfalso; omega)))
       · intro h9
         replace h9 := of_decide_eq_false h9
         first
         | (exfalso; omega)
         | (refine ⟨?_, ?_, (And.intro rfl (And.intro (show (0 : Int) ≤ at0 rows (↑xi : Int) from hr.1) (show at0 rows (↑xi : Int) < (3 : Int) from hr.2))), rfl, (And.intro (show (0 : Int) ≤ (2 : Int) + at0 rows (↑xi : Int) from (by have := hr.1; omega)) (show (2 : Int) + at0 rows (↑xi : Int) < ((Mw.mk W).ws.length : Int) from (by rw [hW]; have := hr.2; omega))), ?_, ?_, ?_, ?_, ?_, ?_⟩
            · exact ⟨(by omega), (by first | omega | (simp only [tak_len] at *; omega))⟩
            · exact ⟨(by omega), (by first | omega | (simp only [tak_len] at *; omega))⟩
            · exact ⟨(by have := hr.1; omega), (by rw [hW]; have := hr.2; omega)⟩
            · exact ⟨(by have := hr.1; omega), (by rw [hW]; have := hr.2; omega)⟩
            · exact ⟨(by have := hr.1; omega), (by rw [hW]; have := hr.2; omega)⟩
            · exact ⟨(by have := hr.1; omega), (by rw [hW]; have := hr.2; omega)⟩
            · intro h10
              replace h10 := of_decide_eq_true h10
              rw [wN (show xi < 100000000 by omega)] at h10
              first
              | (exfalso; omega)
              | (exact ⟨⟨n + 1, i, rd, rs, ws, xi, (1 : Int), c, bk, value, IntKind.i64.wrap (steps + (1 : Int)), asked, W.set ((2 : Int) + at0 rows (↑xi : Int)).toNat (16 : Int), rows⟩, (t2 ⟨rfl, rfl, t7 ⟨rfl, rfl, rfl, rfl, rfl, t33 ⟨rfl, rfl, rfl, rfl, rfl, t16 ⟨rfl, (wN (by omega)), ⟨⟨(mkBW hB hnod), ⟨⟨(show i = p.length + 1 by omega), (by first | rfl | exact hW | (simp only [List.length_set]; first | rfl | exact hW))⟩, ⟨done_free hW hwd hdone hr.2 _, keep_free hW hkeep hr.1 hr.2 _, made_one hne⟩⟩⟩, (show (n + 1) + ((10 : Nat)) ≤ 200 by omega)⟩, (mA hn2), trivial⟩⟩⟩⟩)⟩)
            · intro h11
              replace h11 := of_decide_eq_false h11
              rw [wN (show xi < 100000000 by omega)] at h11
              first
              | (exfalso; omega)
              | (exact ⟨⟨n + 1, i, rd, rs, ws, xi + 1, a, c, bk, value, IntKind.i64.wrap (steps + (1 : Int)), asked, W.set ((2 : Int) + at0 rows (↑xi : Int)).toNat (16 : Int), rows⟩, (t2 ⟨rfl, rfl, t7 ⟨rfl, rfl, rfl, rfl, rfl, t35 ⟨(wN (by omega)), rfl, t29 ⟨rfl, rfl, rfl, t16 ⟨rfl, (wN (by omega)), ⟨⟨(mkBW hB hnod), ⟨⟨(show i = p.length + 1 by omega), (by first | rfl | exact hW | (simp only [List.length_set]; first | rfl | exact hW))⟩, ⟨(show xi + 1 < (rows).length by omega), hrin, done_free hW hwd hdone hr.2 _, keep_free hW hkeep hr.1 hr.2 _, hne⟩⟩⟩, (show (n + 1) + ((18 : Nat) - (xi + 1)) ≤ 200 by omega)⟩, (mA hn2), trivial⟩⟩⟩⟩⟩)⟩)))
  · intro h12
    exact absurd (of_decide_eq_false h12) (by omega)
theorem al_k15 : Go.Sy.Tree.holds (cA l p cl 18 (q15 p) ⟨n, i, rd, rs, ws, xi, a, c, bk, value, steps, asked, W, rows⟩) = ( (decide ((↑n : Int) < 200) = true → sizeD.pre (mp1, ()) ∧ (decide ((↑W.length : Int) < 34) = true
 → (decide ((↑i : Int) > (↑p.length : Int)) = true → ∃ (s : US), Z2 (W = s.W ∧ steps = s.steps ∧ Z7 (rs = s.rs ∧ Q 32 ∧ ws = s.ws ∧ filtT ws = filtT s.ws ∧ asked = s.asked ∧ Z31 (AVal.int IntKind.i64 4 = AVal.int
 IntKind.i64 0 ∧ value = s.value ∧ (0 : Int) = s.a ∧ a = s.a ∧ p = p ∧ (↑i : Int) = (↑s.i : Int) ∧ constA (Value.bool false) = AVal.bool false ∧ Qc 1 ∧ rd = s.rd ∧ IntKind.i64.wrap ((↑n : Int) + 1) = (↑s.n : Int) ∧ ((fun
 (s : US) => baseW p s ∧ (s.i = p.length + 1 ∧ s.W.length = 34) ∧ doneI s) s ∧ s.n + (fun (s : US) => 0) s ≤ 200) ∧ (1000000 : Nat) - s.n < 1000000 - n ∧ True)))) ∧ (decide ((↑i : Int) > (↑p.length : Int)) = false →
 (decide ((↑i : Int) > 0) = true → Bi i p ∧ Bi i p ∧ (((at2 p (IntKind.i64.wrap ((↑i : Int) - 1))).kd == 0) = true → Bi i p ∧ Bi i p ∧ (rd.length + [Wo.mk (at2 p (IntKind.i64.wrap ((↑i : Int) - 1))).pl value].length) * 16
 ≤ 140737488355328 ∧ Stuck "sel: none") ∧ (((at2 p (IntKind.i64.wrap ((↑i : Int) - 1))).kd == 0) = false → Stuck "sel: none")) ∧ (decide ((↑i : Int) > 0) = false → Stuck "sel: none"))) ∧ (decide ((↑W.length : Int) < 34) =
 false → threadD.pre (mp1, (1 : Int), (0 : Int), ()) ∧ badD.pre (Mw.mk W, (13 : Int), ()) ∧ Bk 13 W ∧ Bk 13 W ∧ Bk 13 W ∧ Bk 13 W ∧ (decide ((↑ws.length : Int) > 0) = true → (decide ((↑i : Int) > (↑p.length : Int)) = true
 → ∃ (s : US), Z2 (W.set (13 : Nat) (0 : Int) = s.W ∧ IntKind.i64.wrap (steps + 1) = s.steps ∧ Z7 (rs = s.rs ∧ Q 32 ∧ ws = s.ws ∧ filtT ws = filtT s.ws ∧ asked = s.asked ∧ Z36 (value = s.value ∧ a = s.a ∧ a = s.a ∧ p = p
 ∧ (↑i : Int) = (↑s.i : Int) ∧ constA (Value.bool false) = AVal.bool false ∧ Qc 1 ∧ rd = s.rd ∧ IntKind.i64.wrap ((↑n : Int) + 1) = (↑s.n : Int) ∧ ((fun (s : US) => baseW p s ∧ (s.i = p.length + 1 ∧ s.W.length = 34) ∧
 doneI s) s ∧ s.n + (fun (s : US) => 0) s ≤ 200) ∧ (1000000 : Nat) - s.n < 1000000 - n ∧ True)))) ∧ (decide ((↑i : Int) > (↑p.length : Int)) = false → (decide ((↑i : Int) > 0) = true → Bi i p ∧ Bi i p ∧ (((at2 p
 (IntKind.i64.wrap ((↑i : Int) - 1))).kd == 0) = true → Bi i p ∧ Bi i p ∧ (rd.length + [Wo.mk (at2 p (IntKind.i64.wrap ((↑i : Int) - 1))).pl value].length) * 16 ≤ 140737488355328 ∧ Stuck "sel: none") ∧ (((at2 p
 (IntKind.i64.wrap ((↑i : Int) - 1))).kd == 0) = false → Stuck "sel: none")) ∧ (decide ((↑i : Int) > 0) = false → Stuck "sel: none"))) ∧ (decide ((↑ws.length : Int) > 0) = false → (decide ((↑i : Int) > (↑p.length : Int))
 = true → ∃ (s : US), Z2 (W.set (13 : Nat) (0 : Int) = s.W ∧ IntKind.i64.wrap (steps + 1) = s.steps ∧ Z7 (rs = s.rs ∧ Q 32 ∧ ws = s.ws ∧ filtT ws = filtT s.ws ∧ asked = s.asked ∧ Z36 (value = s.value ∧ (0 : Int) = s.a ∧ a
 = s.a ∧ p = p ∧ (↑i : Int) = (↑s.i : Int) ∧ constA (Value.bool false) = AVal.bool false ∧ Qc 1 ∧ rd = s.rd ∧ IntKind.i64.wrap ((↑n : Int) + 1) = (↑s.n : Int) ∧ ((fun (s : US) => baseW p s ∧ (s.i = p.length + 1 ∧
 s.W.length = 34) ∧ doneI s) s ∧ s.n + (fun (s : US) => 0) s ≤ 200) ∧ (1000000 : Nat) - s.n < 1000000 - n ∧ True)))) ∧ (decide ((↑i : Int) > (↑p.length : Int)) = false → (decide ((↑i : Int) > 0) = true → Bi i p ∧ Bi i p ∧
 (((at2 p (IntKind.i64.wrap ((↑i : Int) - 1))).kd == 0) = true → Bi i p ∧ Bi i p ∧ (rd.length + [Wo.mk (at2 p (IntKind.i64.wrap ((↑i : Int) - 1))).pl value].length) * 16 ≤ 140737488355328 ∧ Stuck "sel: none") ∧ (((at2 p
 (IntKind.i64.wrap ((↑i : Int) - 1))).kd == 0) = false → Stuck "sel: none")) ∧ (decide ((↑i : Int) > 0) = false → Stuck "sel: none"))))) ∧ (decide ((↑n : Int) < 200) = false → keysD.pre (Rs.mk (32 : Int) rs, ()) ∧
 ws.length * 16 ≤ 140737488355328 ∧ ∃ (s : US), Z2 (W = s.W ∧ steps = s.steps ∧ Q 2 ∧ (0 : Int) = s.a ∧ a = s.a ∧ AVal.int IntKind.i64 0 = AVal.int IntKind.i64 1 ∧ ws = s.ws ∧ Qc 0 ∧ putI (0 : Nat) s ∧ (1000 : Nat) <
 1000000 - n ∧ True))) := by kernel_rfl
theorem al_k15_ok (l p : List Op) (cl : Int) (s : US) (hI : (q15 p).I s) : Paid (cA l p cl 18 (q15 p) s) := by
  obtain ⟨n, i, rd, rs, ws, xi, a, c, bk, value, steps, asked, W, rows⟩ := s
  obtain ⟨⟨⟨⟨hpO, hc, hi, hrd, hrs, hws, hwd, hrr⟩, hnod⟩, ⟨he, hW⟩, hx⟩, hn⟩ := hI
  have he : i = p.length + 1 := he
  have hW : W.length = 34 := hW
  obtain ⟨hdone, hkeep, ha⟩ := hx
  have hdone : DoneL 100 ws W := hdone
  have hkeep : KeepL ws W := hkeep
  have ha : a = madeT ws := ha
  have ha0 : ws.length = 0 → (0 : Int) = a := fun h => by rw [ha, made_nil h]
  have hc : c = 1 ∨ c = 2 := hc
  have hi : i ≤ p.length + 1 := hi
  have hrd : rd.length ≤ i := hrd
  have hrs : rs.length ≤ i := hrs
  have hws : ws.length ≤ i := hws
  have hwd : ∀ w ∈ ws, isData w.pl := hwd
  have hrr : ∀ w ∈ rs, 0 ≤ w.pl ∧ w.pl < 3 := hrr
  have hn : n + (10) ≤ 200 := hn
  have hp8 := hpO.1
  have hn2 : n < 200 := by omega
  have hB : ∀ {n xi : Nat} {a bk value steps asked : Int} {W rows : List Int}, baseI p ⟨n, i, rd, rs, ws, xi, a, c, bk, value, steps, asked, W, rows⟩ := mkBase hpO hc hi hrd hrs hws hwd hrr
  refine ⟨?_⟩
  rw [al_k15]
  refine ⟨?_, ?_⟩
  · intro h1
    replace h1 := of_decide_eq_true h1
    first
    | (exfalso; omega)
    | (refine ⟨rfl, ?_, ?_⟩
       · intro h2
         replace h2 := of_decide_eq_true h2
         first
         | (exfalso; omega)
         | (refine ⟨?_, ?_⟩
            · intro h3
              replace h3 := of_decide_eq_true h3
              first
              | (exfalso; omega)
              | (omega)
            · intro h4
              replace h4 := of_decide_eq_false h4
              first
              | (exfalso; omega)
              | (refine ⟨?_, ?_⟩
                 · intro h5
                   replace h5 := of_decide_eq_true h5
                   first
                   | (exfalso; omega)
                   | (refine ⟨?_, ?_, ?_, ?_⟩
                      · exact ⟨(by rw [wM (by omega)]; omega), (by rw [wM (by omega)]; omega)⟩
                      · exact ⟨(by rw [wM (by omega)]; omega), (by rw [wM (by omega)]; omega)⟩
                      · intro h6
                        refine ⟨?_, ?_, (by simp only [List.length_cons, List.length_nil, tak_len] at *; first | omega | (have := rows_take rows hr8 xi (by omega); have := rows_len _ this; omega)), ?_⟩
                        · exact ⟨(by rw [wM (by omega)]; omega), (by rw [wM (by omega)]; omega)⟩
                        · exact ⟨(by rw [wM (by omega)]; omega), (by rw [wM (by omega)]; omega)⟩
                        · exfalso; omega
                      · intro h7
                        exfalso; omega)
                 · intro h8
                   replace h8 := of_decide_eq_false h8
                   first
                   | (exfalso; omega)
                   | (exfalso; omega)))
       · intro h9
         replace h9 := of_decide_eq_false h9
         first
         | (exfalso; omega)
         | (refine ⟨(And.intro rfl (And.intro rfl rfl)), (And.intro (show (0 : Int) ≤ (13 : Int) from (by decide)) (show (13 : Int) < ((Mw.mk W).ws.length : Int) from (by rw [hW]; decide))), ?_, ?_, ?_, ?_, ?_, ?_⟩
            · exact ⟨(by decide), (by rw [hW]; decide)⟩
            · exact ⟨(by decide), (by rw [hW]; decide)⟩
            · exact ⟨(by decide), (by rw [hW]; decide)⟩
            · exact ⟨(by decide), (by rw [hW]; decide)⟩
            · intro h10
              replace h10 := of_decide_eq_true h10
              first
              | (exfalso; omega)
              | (refine ⟨?_, ?_⟩
                 · intro h11
                   replace h11 := of_decide_eq_true h11
                   first
                   | (exfalso; omega)
                   | (exact ⟨⟨n + 1, i, rd, rs, ws, xi, a, c, bk, value, IntKind.i64.wrap (steps + (1 : Int)), asked, W.set (13 : Nat) (0 : Int), rows⟩, (t2 ⟨rfl, rfl, t7 ⟨rfl, rfl, rfl, rfl, rfl, t36 ⟨rfl, rfl, rfl, rfl, rfl, rfl, rfl, rfl, (wN (by omega)), ⟨⟨(mkBW hB hnod), ⟨⟨(show i = p.length + 1 by omega), (by first | rfl | exact hW | (simp only [List.length_set]; first | rfl | exact hW))⟩, ⟨⟨done_low hW hwd hdone _ (by decide), keep_low hW hkeep _, ha⟩, phase_off hW⟩⟩⟩, (show (n + 1) + ((0 : Nat)) ≤ 200 by omega)⟩, (mA hn2), trivial⟩⟩⟩)⟩)
                 · intro h12
                   replace h12 := of_decide_eq_false h12
                   first
                   | (exfalso; omega)
                   | (refine ⟨?_, ?_⟩
                      · intro h13
                        replace h13 := of_decide_eq_true h13
                        first
                        | (exfalso; omega)
                        | (refine ⟨?_, ?_, ?_, ?_⟩
                           · exact ⟨(by rw [wM (by omega)]; omega), (by rw [wM (by omega)]; omega)⟩
                           · exact ⟨(by rw [wM (by omega)]; omega), (by rw [wM (by omega)]; omega)⟩
                           · intro h14
                             refine ⟨?_, ?_, (by simp only [List.length_cons, List.length_nil, tak_len] at *; first | omega | (have := rows_take rows hr8 xi (by omega); have := rows_len _ this; omega)), ?_⟩
                             · exact ⟨(by rw [wM (by omega)]; omega), (by rw [wM (by omega)]; omega)⟩
                             · exact ⟨(by rw [wM (by omega)]; omega), (by rw [wM (by omega)]; omega)⟩
                             · exfalso; omega
                           · intro h15
                             exfalso; omega)
                      · intro h16
                        replace h16 := of_decide_eq_false h16
                        first
                        | (exfalso; omega)
                        | (exfalso; omega)))
            · intro h17
              replace h17 := of_decide_eq_false h17
              first
              | (exfalso; omega)
              | (refine ⟨?_, ?_⟩
                 · intro h18
                   replace h18 := of_decide_eq_true h18
                   first
                   | (exfalso; omega)
                   | (exact ⟨⟨n + 1, i, rd, rs, ws, xi, a, c, bk, value, IntKind.i64.wrap (steps + (1 : Int)), asked, W.set (13 : Nat) (0 : Int), rows⟩, (t2 ⟨rfl, rfl, t7 ⟨rfl, rfl, rfl, rfl, rfl, t36 ⟨rfl, (ha0 (by omega)), rfl, rfl, rfl, rfl, rfl, rfl, (wN (by omega)), ⟨⟨(mkBW hB hnod), ⟨⟨(show i = p.length + 1 by omega), (by first | rfl | exact hW | (simp only [List.length_set]; first | rfl | exact hW))⟩, ⟨⟨done_low hW hwd hdone _ (by decide), keep_low hW hkeep _, ha⟩, phase_off hW⟩⟩⟩, (show (n + 1) + ((0 : Nat)) ≤ 200 by omega)⟩, (mA hn2), trivial⟩⟩⟩)⟩)
                 · intro h19
                   replace h19 := of_decide_eq_false h19
                   first
                   | (exfalso; omega)
                   | (refine ⟨?_, ?_⟩
                      · intro h20
                        replace h20 := of_decide_eq_true h20
                        first
                        | (exfalso; omega)
                        | (refine ⟨?_, ?_, ?_, ?_⟩
                           · exact ⟨(by rw [wM (by omega)]; omega), (by rw [wM (by omega)]; omega)⟩
                           · exact ⟨(by rw [wM (by omega)]; omega), (by rw [wM (by omega)]; omega)⟩
                           · intro h21
                             refine ⟨?_, ?_, (by simp only [List.length_cons, List.length_nil, tak_len] at *; first | omega | (have := rows_take rows hr8 xi (by omega); have := rows_len _ this; omega)), ?_⟩
                             · exact ⟨(by rw [wM (by omega)]; omega), (by rw [wM (by omega)]; omega)⟩
                             · exact ⟨(by rw [wM (by omega)]; omega), (by rw [wM (by omega)]; omega)⟩
                             · exfalso; omega
                           · intro h22
                             exfalso; omega)
                      · intro h23
                        replace h23 := of_decide_eq_false h23
                        first
                        | (exfalso; omega)
                        | (exfalso; omega)))))
  · intro h24
    exact absurd (of_decide_eq_false h24) (by omega)
theorem al_k16 : Go.Sy.Tree.holds (cA l p cl 18 (q16 p) ⟨n, i, rd, rs, ws, xi, a, c, bk, value, steps, asked, W, rows⟩) = ( (decide ((↑n : Int) < 200) = true → keysD.pre (Rs.mk (32 : Int) rs, ()) ∧ ws.length * 16 ≤
 140737488355328 ∧ Tz0 W ws steps a fun s => Qc 0 ∧ putI (0 : Nat) s ∧ (1000 : Nat) < 1000000 - n ∧ True) ∧ (decide ((↑n : Int) < 200) = false → keysD.pre (Rs.mk (32 : Int) rs, ()) ∧ ws.length * 16 ≤ 140737488355328 ∧ Tz0
 W ws steps a fun s => Qc 0 ∧ putI (0 : Nat) s ∧ (1000 : Nat) < 1000000 - n ∧ True)) := by kernel_rfl
theorem al_k16_ok (l p : List Op) (cl : Int) (s : US) (hI : (q16 p).I s) : Paid (cA l p cl 18 (q16 p) s) := by
  obtain ⟨n, i, rd, rs, ws, xi, a, c, bk, value, steps, asked, W, rows⟩ := s
  obtain ⟨⟨⟨⟨hpO, hc, hi, hrd, hrs, hws, hwd, hrr⟩, hnod⟩, ⟨he, hW⟩, hx⟩, hn⟩ := hI
  have hn : n + 0 ≤ 200 := hn
  have hp8 := hpO.1
  have hi : i ≤ p.length + 1 := hi
  have hws : ws.length ≤ i := hws
  have hrs : rs.length ≤ i := hrs
  refine ⟨?_⟩
  rw [al_k16]
  exact ⟨fun _ => ⟨(show rs.length ≤ 1000 by omega), (by omega), ⟨n, i, rd, rs, ws, xi, a, c, bk, value, steps, asked, W, rows⟩, rfl, rfl, rfl, rfl, rfl, rfl, rfl, rfl, rfl, rfl, rfl, rfl, rfl, ⟨⟨hW, (show ws.length ≤ 9 by omega), hwd, hnod, hx⟩, Nat.zero_le _⟩, (show (1000 : Nat) < 1000000 - n by omega), trivial⟩, fun _ => ⟨(show rs.length ≤ 1000 by omega), (by omega), ⟨n, i, rd, rs, ws, xi, a, c, bk, value, steps, asked, W, rows⟩, rfl, rfl, rfl, rfl, rfl, rfl, rfl, rfl, rfl, rfl, rfl, rfl, rfl, ⟨⟨hW, (show ws.length ≤ 9 by omega), hwd, hnod, hx⟩, Nat.zero_le _⟩, (show (1000 : Nat) < 1000000 - n by omega), trivial⟩⟩
end Go.Proofs.Ytmjjljngaefpaaa

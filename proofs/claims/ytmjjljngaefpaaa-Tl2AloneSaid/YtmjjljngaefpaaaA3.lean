/- Tl2Alone: its loops, one step each. -/
import Derived.Test.YtmjjljngaefpaaaAf
namespace Go.Proofs.Ytmjjljngaefpaaa
open Go.RowKit Go.Am Go.Sy
set_option linter.unusedVariables false
set_option linter.unusedSimpArgs false
variable (l p : List Op) (cl : Int) (n i : Nat) (rd rs ws : List Wo) (xi : Nat) (a c bk value steps asked : Int) (W rows : List Int)
theorem al_k8 : Go.Sy.Tree.holds (cA l p cl 18 (q8 p) ⟨n, i, rd, rs, ws, xi, a, c, bk, value, steps, asked, W, rows⟩) = ( (decide ((↑n : Int) < 200) = true → sizeD.pre (mp1, ()) ∧ (decide ((↑(wR (0 : Int) (2 : Int)
 (List.take xi rows)).length : Int) < 34) = true → (decide ((↑i : Int) > (↑p.length : Int)) = true → ∃ (s : US), Z2 (wR (0 : Int) (2 : Int) (List.take xi rows) = s.W ∧ steps = s.steps ∧ Z7 (rs = s.rs ∧ Q 32 ∧ ws = s.ws ∧
 filtT ws = filtT s.ws ∧ asked = s.asked ∧ Qn ∧ AVal.int IntKind.i64 1 = AVal.int IntKind.i64 2 ∧ AVal.int IntKind.i64 4 = AVal.int IntKind.i64 0 ∧ value = s.value ∧ (0 : Int) = s.a ∧ (0 : Int) = s.a ∧ p = p ∧ (↑i : Int)
 = (↑s.i : Int) ∧ constA (Value.bool false) = AVal.bool false ∧ Qc 1 ∧ rd = s.rd ∧ IntKind.i64.wrap ((↑n : Int) + 1) = (↑s.n : Int) ∧ ((fun (s : US) => baseW p s ∧ (s.i = p.length + 1 ∧ s.W.length = 34) ∧ doneI s) s ∧ s.n
 + (fun (s : US) => 0) s ≤ 200) ∧ (1000000 : Nat) - s.n < 1000000 - n ∧ True))) ∧ (decide ((↑i : Int) > (↑p.length : Int)) = false → (decide ((↑i : Int) > 0) = true → Bi i p ∧ Bi i p ∧ (((at2 p (IntKind.i64.wrap ((↑i :
 Int) - 1))).kd == 0) = true → Bi i p ∧ Bi i p ∧ (rd.length + [Wo.mk (at2 p (IntKind.i64.wrap ((↑i : Int) - 1))).pl value].length) * 16 ≤ 140737488355328 ∧ Stuck "sel: none") ∧ (((at2 p (IntKind.i64.wrap ((↑i : Int) -
 1))).kd == 0) = false → Stuck "sel: none")) ∧ (decide ((↑i : Int) > 0) = false → Stuck "sel: none"))) ∧ (decide ((↑(wR (0 : Int) (2 : Int) (List.take xi rows)).length : Int) < 34) = false → ((0 : Int) ≤ (↑xi : Int) ∧
 (↑xi : Int) < (↑rows.length : Int)) ∧ ((0 : Int) ≤ (↑xi : Int) ∧ (↑xi : Int) < (↑rows.length : Int)) ∧ stripeD.pre (mp1, at0 rows (↑xi : Int), ()) ∧ badD.pre (Mw.mk (wR (0 : Int) (2 : Int) (List.take xi rows)), (2 : Int)
 + at0 rows (↑xi : Int), ()) ∧ ((0 : Int) ≤ 2 + at0 rows (↑xi : Int) ∧ (2 : Int) + at0 rows (↑xi : Int) < (↑(wR (0 : Int) (2 : Int) (List.take xi rows)).length : Int)) ∧ ((0 : Int) ≤ 2 + at0 rows (↑xi : Int) ∧ (2 : Int) +
 at0 rows (↑xi : Int) < (↑(wR (0 : Int) (2 : Int) (List.take xi rows)).length : Int)) ∧ (at0 (wR (0 : Int) (2 : Int) (List.take xi rows)) ((2 : Int) + at0 rows (↑xi : Int)) = 0 ∨ at0 (wR (0 : Int) (2 : Int) (List.take xi
 rows)) ((2 : Int) + at0 rows (↑xi : Int)) = 2) ∧ ((at0 (wR (0 : Int) (2 : Int) (List.take xi rows)) ((2 : Int) + at0 rows (↑xi : Int)) == 0) = true → ∃ (s : US), Z2 (wR (0 : Int) (2 : Int) (List.take xi rows) = wR (0 :
 Int) (2 : Int) (List.take s.xi s.rows) ∧ IntKind.i64.wrap (steps + 1) = s.steps ∧ Z8 (c = s.c ∧ Z9 (rs = s.rs ∧ Q 32 ∧ ws = s.ws ∧ filtT ws = filtT s.ws ∧ asked = s.asked ∧ Z24 ((↑xi : Int) = (↑s.xi : Int) ∧ AVal.int
 IntKind.i64 (at0 (wR (0 : Int) (2 : Int) (List.take xi rows)) ((2 : Int) + at0 rows (↑xi : Int))) = AVal.int IntKind.i64 0 ∧ value = s.value ∧ Z19 (bk = s.bk ∧ Z20 (rows = s.rows ∧ takT (List.take xi rows) = takT
 (List.take s.xi s.rows) ∧ Qb true ∧ p = p ∧ (↑i : Int) = (↑s.i : Int) ∧ Z16 (rd = s.rd ∧ IntKind.i64.wrap ((↑n : Int) + 1) = (↑s.n : Int) ∧ ((fun (s : US) => baseW p s ∧ lateP p s ∧ (fun (s : US) => s.xi < s.rows.length)
 s) s ∧ s.n + (fun (s : US) => 54 - 2 * s.xi) s ≤ 200) ∧ (1000000 : Nat) - s.n < 1000000 - n ∧ True)))))))) ∧ ((at0 (wR (0 : Int) (2 : Int) (List.take xi rows)) ((2 : Int) + at0 rows (↑xi : Int)) == 0) = false → (decide
 ((0 : Int) < (↑(takT (List.take xi rows)).length : Int)) = true → Stuck "sel: none") ∧ (decide ((0 : Int) < (↑(takT (List.take xi rows)).length : Int)) = false → Stuck "sel: none")))) ∧ (decide ((↑n : Int) < 200) = false
 → keysD.pre (Rs.mk (32 : Int) rs, ()) ∧ ws.length * 16 ≤ 140737488355328 ∧ ∃ (s : US), Z2 (wR (0 : Int) (2 : Int) (List.take xi rows) = s.W ∧ steps = s.steps ∧ AVal.int IntKind.i64 1 = AVal.int IntKind.i64 2 ∧ (0 : Int)
 = s.a ∧ (0 : Int) = s.a ∧ AVal.int IntKind.i64 0 = AVal.int IntKind.i64 1 ∧ ws = s.ws ∧ Qc 0 ∧ putI (0 : Nat) s ∧ (1000 : Nat) < 1000000 - n ∧ True))) := by kernel_rfl
theorem al_k8_ok (l p : List Op) (cl : Int) (s : US) (hI : (q8 p).I s) : Paid (cA l p cl 18 (q8 p) s) := by
  obtain ⟨n, i, rd, rs, ws, xi, a, c, bk, value, steps, asked, W, rows⟩ := s
  obtain ⟨⟨⟨⟨hpO, hc, hi, hrd, hrs, hws, hwd, hrr⟩, hnod⟩, ⟨he, hne, hrow, hbk⟩, hx⟩, hn⟩ := hI
  have he : i = p.length + 1 := he
  have hne : ws ≠ [] := hne
  have hne0 : 0 < ws.length := List.length_pos_iff.2 hne
  have hrow : rows = rowsT (ws.map (·.pl)) := hrow
  have hbk : bk = 1 ∨ bk = 2 := hbk
  have hr8 : rows ∈ L8 := by rw [hrow]; exact rowsT_in _
  have hrl := rows_len rows hr8
  have hx : xi < rows.length := hx
  have hr := (step_all rows hr8 xi hx).1
  have hst := (step_all rows hr8 xi hx).2.1
  have hset := (step_all rows hr8 xi hx).2.2
  have hc : c = 1 ∨ c = 2 := hc
  have hi : i ≤ p.length + 1 := hi
  have hrd : rd.length ≤ i := hrd
  have hrs : rs.length ≤ i := hrs
  have hws : ws.length ≤ i := hws
  have hwd : ∀ w ∈ ws, isData w.pl := hwd
  have hrr : ∀ w ∈ rs, 0 ≤ w.pl ∧ w.pl < 3 := hrr
  have hn : n + (55 - 2 * xi) ≤ 200 := hn
  have hp8 := hpO.1
  have hn2 : n < 200 := by omega
  have hB : ∀ {n xi : Nat} {a bk value steps asked : Int} {W rows : List Int}, baseI p ⟨n, i, rd, rs, ws, xi, a, c, bk, value, steps, asked, W, rows⟩ := mkBase hpO hc hi hrd hrs hws hwd hrr
  refine ⟨?_⟩
  rw [al_k8]
  refine ⟨?_, ?_⟩
  · intro h1
    replace h1 := of_decide_eq_true h1
    first
    | (exfalso; omega)
    | (refine ⟨rfl, ?_, ?_⟩
       · intro h2
         exact absurd ((show decide ((↑(wR (0 : Int) (2 : Int) (List.take xi rows)).length : Int) < (34 : Int)) = false by kernel_rfl).symm.trans h2) (by decide)
       · intro h3
         replace h3 := of_decide_eq_false h3
         first
         | (exfalso; omega)
         | (refine ⟨?_, ?_, (And.intro rfl (And.intro (show (0 : Int) ≤ at0 rows (↑xi : Int) from hr.1) (show at0 rows (↑xi : Int) < (3 : Int) from hr.2))), (And.intro (show (0 : Int) ≤ (2 : Int) + at0 rows (↑xi : Int) from (by have := hr.1; omega)) (show (2 : Int) + at0 rows (↑xi : Int) < ((Mw.mk (wR (0 : Int) (2 : Int) (List.take xi rows))).ws.length : Int) from (show _ < (34 : Int) by have := hr.2; omega))), ?_, ?_, (Or.inl hst), ?_, ?_⟩
            · exact ⟨(by omega), (by first | omega | (simp only [tak_len] at *; omega))⟩
            · exact ⟨(by omega), (by first | omega | (simp only [tak_len] at *; omega))⟩
            · exact ⟨(by have := hr.1; omega), (show _ < (34 : Int) by have := hr.2; omega)⟩
            · exact ⟨(by have := hr.1; omega), (show _ < (34 : Int) by have := hr.2; omega)⟩
            · intro h4
              exact ⟨⟨n + 1, i, rd, rs, ws, xi, a, c, bk, value, IntKind.i64.wrap (steps + (1 : Int)), asked, W, rows⟩, (t2 ⟨rfl, rfl, t8 ⟨rfl, t9 ⟨rfl, rfl, rfl, rfl, rfl, t24 ⟨rfl, (congrArg (AVal.int IntKind.i64) hst), rfl, t19 ⟨rfl, t20 ⟨rfl, rfl, rfl, rfl, rfl, t16 ⟨rfl, (wN (by omega)), ⟨⟨(mkBW hB hnod), ⟨⟨(show i = p.length + 1 by omega), hne, hrow, hbk⟩, (show (xi) < (rows).length by first | omega | (simp only [List.length_map] at *; omega))⟩⟩, (show (n + 1) + ((54 : Nat) - (2 : Nat) * (xi)) ≤ 200 by omega)⟩, (mA hn2), trivial⟩⟩⟩⟩⟩⟩⟩)⟩
            · intro h5
              rw [hst] at h5
              cases h5))
  · intro h6
    exact absurd (of_decide_eq_false h6) (by omega)
theorem al_k9 : Go.Sy.Tree.holds (cA l p cl 18 (q9 p) ⟨n, i, rd, rs, ws, xi, a, c, bk, value, steps, asked, W, rows⟩) = ( (decide ((↑n : Int) < 200) = true → sizeD.pre (mp1, ()) ∧ (decide ((↑(wR (0 : Int) (2 : Int)
 (List.take xi rows)).length : Int) < 34) = true → (decide ((↑i : Int) > (↑p.length : Int)) = true → ∃ (s : US), Z2 (wR (0 : Int) (2 : Int) (List.take xi rows) = s.W ∧ steps = s.steps ∧ Z7 (rs = s.rs ∧ Q 32 ∧ ws = s.ws ∧
 filtT ws = filtT s.ws ∧ asked = s.asked ∧ Qn ∧ AVal.int IntKind.i64 1 = AVal.int IntKind.i64 2 ∧ AVal.int IntKind.i64 4 = AVal.int IntKind.i64 0 ∧ value = s.value ∧ (0 : Int) = s.a ∧ (0 : Int) = s.a ∧ p = p ∧ (↑i : Int)
 = (↑s.i : Int) ∧ constA (Value.bool false) = AVal.bool false ∧ Qc 1 ∧ rd = s.rd ∧ IntKind.i64.wrap ((↑n : Int) + 1) = (↑s.n : Int) ∧ ((fun (s : US) => baseW p s ∧ (s.i = p.length + 1 ∧ s.W.length = 34) ∧ doneI s) s ∧ s.n
 + (fun (s : US) => 0) s ≤ 200) ∧ (1000000 : Nat) - s.n < 1000000 - n ∧ True))) ∧ (decide ((↑i : Int) > (↑p.length : Int)) = false → (decide ((↑i : Int) > 0) = true → Bi i p ∧ Bi i p ∧ (((at2 p (IntKind.i64.wrap ((↑i :
 Int) - 1))).kd == 0) = true → Bi i p ∧ Bi i p ∧ (rd.length + [Wo.mk (at2 p (IntKind.i64.wrap ((↑i : Int) - 1))).pl value].length) * 16 ≤ 140737488355328 ∧ Stuck "sel: none") ∧ (((at2 p (IntKind.i64.wrap ((↑i : Int) -
 1))).kd == 0) = false → Stuck "sel: none")) ∧ (decide ((↑i : Int) > 0) = false → Stuck "sel: none"))) ∧ (decide ((↑(wR (0 : Int) (2 : Int) (List.take xi rows)).length : Int) < 34) = false → ((0 : Int) ≤ (↑xi : Int) ∧
 (↑xi : Int) < (↑rows.length : Int)) ∧ ((0 : Int) ≤ (↑xi : Int) ∧ (↑xi : Int) < (↑rows.length : Int)) ∧ stripeD.pre (mp1, at0 rows (↑xi : Int), ()) ∧ takenD.pre ((0 : Int), (1 : Int), ()) ∧ badD.pre (Mw.mk (wR (0 : Int)
 (2 : Int) (List.take xi rows)), (2 : Int) + at0 rows (↑xi : Int), ()) ∧ ((0 : Int) ≤ 2 + at0 rows (↑xi : Int) ∧ (2 : Int) + at0 rows (↑xi : Int) < (↑(wR (0 : Int) (2 : Int) (List.take xi rows)).length : Int)) ∧ ((0 :
 Int) ≤ 2 + at0 rows (↑xi : Int) ∧ (2 : Int) + at0 rows (↑xi : Int) < (↑(wR (0 : Int) (2 : Int) (List.take xi rows)).length : Int)) ∧ ((at0 (wR (0 : Int) (2 : Int) (List.take xi rows)) ((2 : Int) + at0 rows (↑xi : Int))
 == 0) = true → ((0 : Int) ≤ 2 + at0 rows (↑xi : Int) ∧ (2 : Int) + at0 rows (↑xi : Int) < (↑(wR (0 : Int) (2 : Int) (List.take xi rows)).length : Int)) ∧ ((0 : Int) ≤ 2 + at0 rows (↑xi : Int) ∧ (2 : Int) + at0 rows (↑xi
 : Int) < (↑(wR (0 : Int) (2 : Int) (List.take xi rows)).length : Int)) ∧ ((!at0 (wR (0 : Int) (2 : Int) (List.take xi rows)) ((2 : Int) + at0 rows (↑xi : Int)) == 0) = true → (decide ((0 : Int) < (↑(takT (List.take xi
 rows)).length : Int)) = true → Stuck "sel: none") ∧ (decide ((0 : Int) < (↑(takT (List.take xi rows)).length : Int)) = false → Stuck "sel: none")) ∧ ((!at0 (wR (0 : Int) (2 : Int) (List.take xi rows)) ((2 : Int) + at0
 rows (↑xi : Int)) == 0) = false → ((takT (List.take xi rows)).length + [Wo.mk ((2 : Int) + at0 rows (↑xi : Int)) (0 : Int)].length) * 16 ≤ 140737488355328 ∧ (decide (IntKind.i64.wrap ((↑xi : Int) + 1) ≥ (↑rows.length :
 Int)) = true → ∃ (s : US), Z2 ((wR (0 : Int) (2 : Int) (List.take xi rows)).set ((2 : Int) + at0 rows (↑xi : Int)).toNat (2 : Int) = wR (0 : Int) (2 : Int) s.rows ∧ IntKind.i64.wrap (steps + 1) = s.steps ∧ Z8 (c = s.c ∧
 Z9 (rs = s.rs ∧ Q 32 ∧ ws = s.ws ∧ filtT ws = filtT s.ws ∧ asked = s.asked ∧ Z18 (value = s.value ∧ Z19 (bk = s.bk ∧ Z20 (rows = s.rows ∧ takT (List.take xi rows) ++ [Wo.mk ((2 : Int) + at0 rows (↑xi : Int)) (0 : Int)] =
 takT s.rows ∧ Qb true ∧ p = p ∧ (↑i : Int) = (↑s.i : Int) ∧ Z16 (rd = s.rd ∧ IntKind.i64.wrap ((↑n : Int) + 1) = (↑s.n : Int) ∧ ((fun (s : US) => baseW p s ∧ lateP p s ∧ (fun (s : US) => True) s) s ∧ s.n + (fun (s : US)
 => 45) s ≤ 200) ∧ (1000000 : Nat) - s.n < 1000000 - n ∧ True)))))))) ∧ (decide (IntKind.i64.wrap ((↑xi : Int) + 1) ≥ (↑rows.length : Int)) = false → ∃ (s : US), Z2 ((wR (0 : Int) (2 : Int) (List.take xi rows)).set ((2 :
 Int) + at0 rows (↑xi : Int)).toNat (2 : Int) = wR (0 : Int) (2 : Int) (List.take s.xi s.rows) ∧ IntKind.i64.wrap (steps + 1) = s.steps ∧ Z8 (c = s.c ∧ Z9 (rs = s.rs ∧ Q 32 ∧ ws = s.ws ∧ filtT ws = filtT s.ws ∧ asked =
 s.asked ∧ Z21 (IntKind.i64.wrap ((↑xi : Int) + 1) = (↑s.xi : Int) ∧ value = s.value ∧ Z19 (bk = s.bk ∧ Z20 (rows = s.rows ∧ takT (List.take xi rows) ++ [Wo.mk ((2 : Int) + at0 rows (↑xi : Int)) (0 : Int)] = takT
 (List.take s.xi s.rows) ∧ Qb true ∧ p = p ∧ (↑i : Int) = (↑s.i : Int) ∧ Z16 (rd = s.rd ∧ IntKind.i64.wrap ((↑n : Int) + 1) = (↑s.n : Int) ∧ ((fun (s : US) => baseW p s ∧ lateP p s ∧ (fun (s : US) => s.xi < s.rows.length)
 s) s ∧ s.n + (fun (s : US) => 55 - 2 * s.xi) s ≤ 200) ∧ (1000000 : Nat) - s.n < 1000000 - n ∧ True)))))))))) ∧ ((at0 (wR (0 : Int) (2 : Int) (List.take xi rows)) ((2 : Int) + at0 rows (↑xi : Int)) == 0) = false → ((!at0
 (wR (0 : Int) (2 : Int) (List.take xi rows)) ((2 : Int) + at0 rows (↑xi : Int)) == 0) = true → (decide ((0 : Int) < (↑(takT (List.take xi rows)).length : Int)) = true → Stuck "sel: none") ∧ (decide ((0 : Int) < (↑(takT
 (List.take xi rows)).length : Int)) = false → Stuck "sel: none")) ∧ ((!at0 (wR (0 : Int) (2 : Int) (List.take xi rows)) ((2 : Int) + at0 rows (↑xi : Int)) == 0) = false → ((takT (List.take xi rows)).length + [Wo.mk ((2 :
 Int) + at0 rows (↑xi : Int)) (0 : Int)].length) * 16 ≤ 140737488355328 ∧ (decide (IntKind.i64.wrap ((↑xi : Int) + 1) ≥ (↑rows.length : Int)) = true → ∃ (s : US), Z2 (wR (0 : Int) (2 : Int) (List.take xi rows) = wR (0 :
 Int) (2 : Int) s.rows ∧ IntKind.i64.wrap (steps + 1) = s.steps ∧ Z8 (c = s.c ∧ Z9 (rs = s.rs ∧ Q 32 ∧ ws = s.ws ∧ filtT ws = filtT s.ws ∧ asked = s.asked ∧ Z18 (value = s.value ∧ Z19 (bk = s.bk ∧ Z20 (rows = s.rows ∧
 takT (List.take xi rows) ++ [Wo.mk ((2 : Int) + at0 rows (↑xi : Int)) (0 : Int)] = takT s.rows ∧ Qb true ∧ p = p ∧ (↑i : Int) = (↑s.i : Int) ∧ Z16 (rd = s.rd ∧ IntKind.i64.wrap ((↑n : Int) + 1) = (↑s.n : Int) ∧ ((fun (s
 : US) => baseW p s ∧ lateP p s ∧ (fun (s : US) => True) s) s ∧ s.n + (fun (s : US) => 45) s ≤ 200) ∧ (1000000 : Nat) - s.n < 1000000 - n ∧ True)))))))) ∧ (decide (IntKind.i64.wrap ((↑xi : Int) + 1) ≥ (↑rows.length :
 Int)) = false → ∃ (s : US), Z2 (wR (0 : Int) (2 : Int) (List.take xi rows) = wR (0 : Int) (2 : Int) (List.take s.xi s.rows) ∧ IntKind.i64.wrap (steps + 1) = s.steps ∧ Z8 (c = s.c ∧ Z9 (rs = s.rs ∧ Q 32 ∧ ws = s.ws ∧
 filtT ws = filtT s.ws ∧ asked = s.asked ∧ Z21 (IntKind.i64.wrap ((↑xi : Int) + 1) = (↑s.xi : Int) ∧ value = s.value ∧ Z19 (bk = s.bk ∧ Z20 (rows = s.rows ∧ takT (List.take xi rows) ++ [Wo.mk ((2 : Int) + at0 rows (↑xi :
 Int)) (0 : Int)] = takT (List.take s.xi s.rows) ∧ Qb true ∧ p = p ∧ (↑i : Int) = (↑s.i : Int) ∧ Z16 (rd = s.rd ∧ IntKind.i64.wrap ((↑n : Int) + 1) = (↑s.n : Int) ∧ ((fun (s : US) => baseW p s ∧ lateP p s ∧ (fun (s : US)
 => s.xi < s.rows.length) s) s ∧ s.n + (fun (s : US) => 55 - 2 * s.xi) s ≤ 200) ∧ (1000000 : Nat) - s.n < 1000000 - n ∧ True)))))))))))) ∧ (decide ((↑n : Int) < 200) = false → keysD.pre (Rs.mk (32 : Int) rs, ()) ∧
 ws.length * 16 ≤ 140737488355328 ∧ ∃ (s : US), Z2 (wR (0 : Int) (2 : Int) (List.take xi rows) = s.W ∧ steps = s.steps ∧ AVal.int IntKind.i64 1 = AVal.int IntKind.i64 2 ∧ (0 : Int) = s.a ∧ (0 : Int) = s.a ∧ AVal.int
 IntKind.i64 0 = AVal.int IntKind.i64 1 ∧ ws = s.ws ∧ Qc 0 ∧ putI (0 : Nat) s ∧ (1000 : Nat) < 1000000 - n ∧ True))) := by kernel_rfl
theorem al_k9_ok (l p : List Op) (cl : Int) (s : US) (hI : (q9 p).I s) : Paid (cA l p cl 18 (q9 p) s) := by
  obtain ⟨n, i, rd, rs, ws, xi, a, c, bk, value, steps, asked, W, rows⟩ := s
  obtain ⟨⟨⟨⟨hpO, hc, hi, hrd, hrs, hws, hwd, hrr⟩, hnod⟩, ⟨he, hne, hrow, hbk⟩, hx⟩, hn⟩ := hI
  have he : i = p.length + 1 := he
  have hne : ws ≠ [] := hne
  have hne0 : 0 < ws.length := List.length_pos_iff.2 hne
  have hrow : rows = rowsT (ws.map (·.pl)) := hrow
  have hbk : bk = 1 ∨ bk = 2 := hbk
  have hr8 : rows ∈ L8 := by rw [hrow]; exact rowsT_in _
  have hrl := rows_len rows hr8
  have hx : xi < rows.length := hx
  have hr := (step_all rows hr8 xi hx).1
  have hst := (step_all rows hr8 xi hx).2.1
  have hset := (step_all rows hr8 xi hx).2.2
  have hc : c = 1 ∨ c = 2 := hc
  have hi : i ≤ p.length + 1 := hi
  have hrd : rd.length ≤ i := hrd
  have hrs : rs.length ≤ i := hrs
  have hws : ws.length ≤ i := hws
  have hwd : ∀ w ∈ ws, isData w.pl := hwd
  have hrr : ∀ w ∈ rs, 0 ≤ w.pl ∧ w.pl < 3 := hrr
  have hn : n + (54 - 2 * xi) ≤ 200 := hn
  have hp8 := hpO.1
  have hn2 : n < 200 := by omega
  have hB : ∀ {n xi : Nat} {a bk value steps asked : Int} {W rows : List Int}, baseI p ⟨n, i, rd, rs, ws, xi, a, c, bk, value, steps, asked, W, rows⟩ := mkBase hpO hc hi hrd hrs hws hwd hrr
  refine ⟨?_⟩
  rw [al_k9]
  refine ⟨?_, ?_⟩
  · intro h1
    replace h1 := of_decide_eq_true h1
    first
    | (exfalso; omega)
    | (refine ⟨rfl, ?_, ?_⟩
       · intro h2
         exact absurd ((show decide ((↑(wR (0 : Int) (2 : Int) (List.take xi rows)).length : Int) < (34 : Int)) = false by kernel_rfl).symm.trans h2) (by decide)
       · intro h3
         replace h3 := of_decide_eq_false h3
         first
         | (exfalso; omega)
         | (refine ⟨?_, ?_, (And.intro rfl (And.intro (show (0 : Int) ≤ at0 rows (↑xi : Int) from hr.1) (show at0 rows (↑xi : Int) < (3 : Int) from hr.2))), (And.intro rfl rfl), (And.intro (show (0 : Int) ≤ (2 : Int) + at0 rows (↑xi : Int) from (by have := hr.1; omega)) (show (2 : Int) + at0 rows (↑xi : Int) < ((Mw.mk (wR (0 : Int) (2 : Int) (List.take xi rows))).ws.length : Int) from (show _ < (34 : Int) by have := hr.2; omega))), ?_, ?_, ?_, ?_⟩
            · exact ⟨(by omega), (by first | omega | (simp only [tak_len] at *; omega))⟩
            · exact ⟨(by omega), (by first | omega | (simp only [tak_len] at *; omega))⟩
            · exact ⟨(by have := hr.1; omega), (show _ < (34 : Int) by have := hr.2; omega)⟩
            · exact ⟨(by have := hr.1; omega), (show _ < (34 : Int) by have := hr.2; omega)⟩
            · intro h4
              refine ⟨?_, ?_, ?_, ?_⟩
              · exact ⟨(by have := hr.1; omega), (show _ < (34 : Int) by have := hr.2; omega)⟩
              · exact ⟨(by have := hr.1; omega), (show _ < (34 : Int) by have := hr.2; omega)⟩
              · intro h5
                rw [hst] at h5
                cases h5
              · intro h6
                refine ⟨(by simp only [List.length_cons, List.length_nil, tak_len] at *; first | omega | (have := rows_take rows hr8 xi (by omega); have := rows_len _ this; omega)), ?_, ?_⟩
                · intro h7
                  replace h7 := of_decide_eq_true h7
                  rw [wN (show xi < 100000000 by omega)] at h7
                  first
                  | (exfalso; omega)
                  | (exact ⟨⟨n + 1, i, rd, rs, ws, xi, a, c, bk, value, IntKind.i64.wrap (steps + (1 : Int)), asked, W, rows⟩, (t2 ⟨(by rw [hset, List.take_of_length_le (by omega)]), rfl, t8 ⟨rfl, t9 ⟨rfl, rfl, rfl, rfl, rfl, t18 ⟨rfl, t19 ⟨rfl, t20 ⟨rfl, (by rw [(tak_step hx), List.take_of_length_le (by omega)]), rfl, rfl, rfl, t16 ⟨rfl, (wN (by omega)), ⟨⟨(mkBW hB hnod), ⟨⟨(show i = p.length + 1 by omega), hne, hrow, hbk⟩, trivial⟩⟩, (show (n + 1) + ((45 : Nat)) ≤ 200 by omega)⟩, (mA hn2), trivial⟩⟩⟩⟩⟩⟩⟩)⟩)
                · intro h8
                  replace h8 := of_decide_eq_false h8
                  rw [wN (show xi < 100000000 by omega)] at h8
                  first
                  | (exfalso; omega)
                  | (exact ⟨⟨n + 1, i, rd, rs, ws, xi + 1, a, c, bk, value, IntKind.i64.wrap (steps + (1 : Int)), asked, W, rows⟩, (t2 ⟨hset, rfl, t8 ⟨rfl, t9 ⟨rfl, rfl, rfl, rfl, rfl, t21 ⟨(wN (by omega)), rfl, t19 ⟨rfl, t20 ⟨rfl, (tak_step hx), rfl, rfl, rfl, t16 ⟨rfl, (wN (by omega)), ⟨⟨(mkBW hB hnod), ⟨⟨(show i = p.length + 1 by omega), hne, hrow, hbk⟩, (show (xi + 1) < (rows).length by first | omega | (simp only [List.length_map] at *; omega))⟩⟩, (show (n + 1) + ((55 : Nat) - (2 : Nat) * (xi + 1)) ≤ 200 by omega)⟩, (mA hn2), trivial⟩⟩⟩⟩⟩⟩⟩)⟩)
            · intro h9
              rw [hst] at h9
              cases h9))
  · intro h10
    exact absurd (of_decide_eq_false h10) (by omega)
theorem al_k10 : Go.Sy.Tree.holds (cA l p cl 18 (q10 p) ⟨n, i, rd, rs, ws, xi, a, c, bk, value, steps, asked, W, rows⟩) = ( (decide ((↑n : Int) < 200) = true → sizeD.pre (mp1, ()) ∧ (decide ((↑(wR (0 : Int) (2 : Int)
 rows).length : Int) < 34) = true → (decide ((↑i : Int) > (↑p.length : Int)) = true → ∃ (s : US), Z2 (wR (0 : Int) (2 : Int) rows = s.W ∧ steps = s.steps ∧ Z7 (rs = s.rs ∧ Q 32 ∧ ws = s.ws ∧ filtT ws = filtT s.ws ∧ asked
 = s.asked ∧ Qn ∧ AVal.int IntKind.i64 1 = AVal.int IntKind.i64 2 ∧ AVal.int IntKind.i64 4 = AVal.int IntKind.i64 0 ∧ value = s.value ∧ (0 : Int) = s.a ∧ (0 : Int) = s.a ∧ p = p ∧ (↑i : Int) = (↑s.i : Int) ∧ constA
 (Value.bool false) = AVal.bool false ∧ Qc 1 ∧ rd = s.rd ∧ IntKind.i64.wrap ((↑n : Int) + 1) = (↑s.n : Int) ∧ ((fun (s : US) => baseW p s ∧ (s.i = p.length + 1 ∧ s.W.length = 34) ∧ doneI s) s ∧ s.n + (fun (s : US) => 0) s
 ≤ 200) ∧ (1000000 : Nat) - s.n < 1000000 - n ∧ True))) ∧ (decide ((↑i : Int) > (↑p.length : Int)) = false → (decide ((↑i : Int) > 0) = true → Bi i p ∧ Bi i p ∧ (((at2 p (IntKind.i64.wrap ((↑i : Int) - 1))).kd == 0) =
 true → Bi i p ∧ Bi i p ∧ (rd.length + [Wo.mk (at2 p (IntKind.i64.wrap ((↑i : Int) - 1))).pl value].length) * 16 ≤ 140737488355328 ∧ Stuck "sel: none") ∧ (((at2 p (IntKind.i64.wrap ((↑i : Int) - 1))).kd == 0) = false →
 Stuck "sel: none")) ∧ (decide ((↑i : Int) > 0) = false → Stuck "sel: none"))) ∧ (decide ((↑(wR (0 : Int) (2 : Int) rows).length : Int) < 34) = false → mayD.pre (mp1, ()) ∧ sizeD.pre (mp1, ()) ∧ (decide ((↑(wR (0 : Int)
 (2 : Int) rows).length : Int) < 34) = true → ∃ (s : US), Z2 (wR (0 : Int) (2 : Int) rows = wR (0 : Int) (2 : Int) s.rows ∧ steps = s.steps ∧ Z8 (c = s.c ∧ Z9 (rs = s.rs ∧ Q 32 ∧ ws = s.ws ∧ filtT ws = filtT s.ws ∧ asked
 = s.asked ∧ Z28 (value = s.value ∧ Z19 (bk = s.bk ∧ Z20 (rows = s.rows ∧ takT rows = takT s.rows ∧ Qb true ∧ p = p ∧ (↑i : Int) = (↑s.i : Int) ∧ Z16 (rd = s.rd ∧ IntKind.i64.wrap ((↑n : Int) + 1) = (↑s.n : Int) ∧ ((fun
 (s : US) => baseW p s ∧ lateP p s ∧ (fun (s : US) => True) s) s ∧ s.n + (fun (s : US) => 45) s ≤ 200) ∧ (1000000 : Nat) - s.n < 1000000 - n ∧ True)))))))) ∧ (decide ((↑(wR (0 : Int) (2 : Int) rows).length : Int) < 34) =
 false → clockD.pre (mp1, ()) ∧ ((bk == 1) = true → badD.pre (Mw.mk (wR (0 : Int) (2 : Int) rows), (0 : Int), ()) ∧ Bk 0 (wR (0 : Int) (2 : Int) rows) ∧ Bk 0 (wR (0 : Int) (2 : Int) rows) ∧ Bk 0 (wR (0 : Int) (2 : Int)
 rows) ∧ Bk 0 (wR (0 : Int) (2 : Int) rows) ∧ (decide (IntKind.i64.wrap (at0 (wR (0 : Int) (2 : Int) rows) (0 : Int) + 1) > 1000) = true → (decide ((0 : Int) < (↑(takT rows).length : Int)) = true → Stuck "sel: none") ∧
 (decide ((0 : Int) < (↑(takT rows).length : Int)) = false → Stuck "sel: none")) ∧ (decide (IntKind.i64.wrap (at0 (wR (0 : Int) (2 : Int) rows) (0 : Int) + 1) > 1000) = false → (decide ((0 : Int) < (↑rs.length : Int)) =
 true → ((bk == 1) = true → ((!IntKind.i64.wrap (at0 (wR (0 : Int) (2 : Int) rows) (0 : Int) + 1) == 1) = true → ∃ (s : US), Z2 ((wR (0 : Int) (2 : Int) rows).set (0 : Nat) (IntKind.i64.wrap (at0 (wR (0 : Int) (2 : Int)
 rows) (0 : Int) + 1)) = wR (1 : Int) (2 : Int) s.rows ∧ IntKind.i64.wrap (steps + 1) = s.steps ∧ Z8 (c = s.c ∧ Z9 (rs = s.rs ∧ Q 32 ∧ ws = s.ws ∧ filtT ws = filtT s.ws ∧ asked = s.asked ∧ Z27 ((0 : Int) = (↑s.xi : Int) ∧
 value = s.value ∧ Q 0 ∧ AVal.int IntKind.i64 (IntKind.i64.wrap (at0 (wR (0 : Int) (2 : Int) rows) (0 : Int) + 1)) = AVal.int IntKind.i64 1 ∧ bk = s.bk ∧ rows = s.rows ∧ takT rows = takT s.rows ∧ Qb true ∧ p = p ∧ (↑i :
 Int) = (↑s.i : Int) ∧ Z16 (rd = s.rd ∧ IntKind.i64.wrap ((↑n : Int) + 1) = (↑s.n : Int) ∧ ((fun (s : US) => baseW p s ∧ lateP p s ∧ (fun (s : US) => s.xi < s.rs.length) s) s ∧ s.n + (fun (s : US) => 43 - s.xi) s ≤ 200) ∧
 (1000000 : Nat) - s.n < 1000000 - n ∧ True)))))) ∧ ((!IntKind.i64.wrap (at0 (wR (0 : Int) (2 : Int) rows) (0 : Int) + 1) == 1) = false → (decide ((0 : Int) < (↑ws.length : Int)) = true → ∃ (s : US), Z2 ((wR (0 : Int) (2
 : Int) rows).set (0 : Nat) (IntKind.i64.wrap (at0 (wR (0 : Int) (2 : Int) rows) (0 : Int) + 1)) = s.W ∧ IntKind.i64.wrap (steps + 1) = s.steps ∧ Z7 (rs = s.rs ∧ Q 32 ∧ ws = s.ws ∧ filtT ws = filtT s.ws ∧ asked = s.asked
 ∧ Z22 ((0 : Int) = (↑s.xi : Int) ∧ value = s.value ∧ Q 0 ∧ AVal.int IntKind.i64 (IntKind.i64.wrap (at0 (wR (0 : Int) (2 : Int) rows) (0 : Int) + 1)) = AVal.int IntKind.i64 1 ∧ rows = s.rows ∧ p = p ∧ (↑i : Int) = (↑s.i :
 Int) ∧ Z16 (rd = s.rd ∧ IntKind.i64.wrap ((↑n : Int) + 1) = (↑s.n : Int) ∧ ((fun (s : US) => baseW p s ∧ (s.i = p.length + 1 ∧ s.W.length = 34) ∧ writeI s) s ∧ s.n + (fun (s : US) => 29 - s.xi) s ≤ 200) ∧ (1000000 : Nat)
 - s.n < 1000000 - n ∧ True))))) ∧ (decide ((0 : Int) < (↑ws.length : Int)) = false → (decide ((0 : Int) ≥ (↑rows.length : Int)) = true → ∃ (s : US), Z2 ((wR (0 : Int) (2 : Int) rows).set (0 : Nat) (IntKind.i64.wrap (at0
 (wR (0 : Int) (2 : Int) rows) (0 : Int) + 1)) = s.W ∧ IntKind.i64.wrap (steps + 1) = s.steps ∧ Z7 (rs = s.rs ∧ Q 32 ∧ ws = s.ws ∧ filtT ws = filtT s.ws ∧ asked = s.asked ∧ Z23 (value = s.value ∧ Q 0 ∧ IntKind.i64.wrap
 (at0 (wR (0 : Int) (2 : Int) rows) (0 : Int) + 1) = s.a ∧ p = p ∧ (↑i : Int) = (↑s.i : Int) ∧ Z16 (rd = s.rd ∧ IntKind.i64.wrap ((↑n : Int) + 1) = (↑s.n : Int) ∧ ((fun (s : US) => baseW p s ∧ (s.i = p.length + 1 ∧
 s.W.length = 34) ∧ leaveI s) s ∧ s.n + (fun (s : US) => 10) s ≤ 200) ∧ (1000000 : Nat) - s.n < 1000000 - n ∧ True))))) ∧ (decide ((0 : Int) ≥ (↑rows.length : Int)) = false → ∃ (s : US), Z2 ((wR (0 : Int) (2 : Int)
 rows).set (0 : Nat) (IntKind.i64.wrap (at0 (wR (0 : Int) (2 : Int) rows) (0 : Int) + 1)) = s.W ∧ IntKind.i64.wrap (steps + 1) = s.steps ∧ Z7 (rs = s.rs ∧ Q 32 ∧ ws = s.ws ∧ filtT ws = filtT s.ws ∧ asked = s.asked ∧ Z26
 ((0 : Int) = (↑s.xi : Int) ∧ value = s.value ∧ Q 0 ∧ AVal.int IntKind.i64 (IntKind.i64.wrap (at0 (wR (0 : Int) (2 : Int) rows) (0 : Int) + 1)) = AVal.int IntKind.i64 1 ∧ rows = s.rows ∧ p = p ∧ (↑i : Int) = (↑s.i : Int)
 ∧ Z16 (rd = s.rd ∧ IntKind.i64.wrap ((↑n : Int) + 1) = (↑s.n : Int) ∧ ((fun (s : US) => baseW p s ∧ (s.i = p.length + 1 ∧ s.W.length = 34) ∧ freeI s) s ∧ s.n + (fun (s : US) => 18 - s.xi) s ≤ 200) ∧ (1000000 : Nat) - s.n
 < 1000000 - n ∧ True)))))))) ∧ ((bk == 1) = false → ∃ (s : US), Z2 ((wR (0 : Int) (2 : Int) rows).set (0 : Nat) (IntKind.i64.wrap (at0 (wR (0 : Int) (2 : Int) rows) (0 : Int) + 1)) = wR (1 : Int) (2 : Int) s.rows ∧
 IntKind.i64.wrap (steps + 1) = s.steps ∧ Z8 (c = s.c ∧ Z9 (rs = s.rs ∧ Q 32 ∧ ws = s.ws ∧ filtT ws = filtT s.ws ∧ asked = s.asked ∧ Z27 ((0 : Int) = (↑s.xi : Int) ∧ value = s.value ∧ Q 0 ∧ AVal.int IntKind.i64
 (IntKind.i64.wrap (at0 (wR (0 : Int) (2 : Int) rows) (0 : Int) + 1)) = AVal.int IntKind.i64 1 ∧ bk = s.bk ∧ rows = s.rows ∧ takT rows = takT s.rows ∧ Qb true ∧ p = p ∧ (↑i : Int) = (↑s.i : Int) ∧ Z16 (rd = s.rd ∧
 IntKind.i64.wrap ((↑n : Int) + 1) = (↑s.n : Int) ∧ ((fun (s : US) => baseW p s ∧ lateP p s ∧ (fun (s : US) => s.xi < s.rs.length) s) s ∧ s.n + (fun (s : US) => 43 - s.xi) s ≤ 200) ∧ (1000000 : Nat) - s.n < 1000000 - n ∧
 True))))))) ∧ (decide ((0 : Int) < (↑rs.length : Int)) = false → (decide ((0 : Int) < (↑ws.length : Int)) = true → ∃ (s : US), Z2 ((wR (0 : Int) (2 : Int) rows).set (0 : Nat) (IntKind.i64.wrap (at0 (wR (0 : Int) (2 :
 Int) rows) (0 : Int) + 1)) = s.W ∧ IntKind.i64.wrap (steps + 1) = s.steps ∧ Z7 (rs = s.rs ∧ Q 32 ∧ ws = s.ws ∧ filtT ws = filtT s.ws ∧ asked = s.asked ∧ Z22 ((0 : Int) = (↑s.xi : Int) ∧ value = s.value ∧ Q 0 ∧ AVal.int
 IntKind.i64 (IntKind.i64.wrap (at0 (wR (0 : Int) (2 : Int) rows) (0 : Int) + 1)) = AVal.int IntKind.i64 1 ∧ rows = s.rows ∧ p = p ∧ (↑i : Int) = (↑s.i : Int) ∧ Z16 (rd = s.rd ∧ IntKind.i64.wrap ((↑n : Int) + 1) = (↑s.n :
 Int) ∧ ((fun (s : US) => baseW p s ∧ (s.i = p.length + 1 ∧ s.W.length = 34) ∧ writeI s) s ∧ s.n + (fun (s : US) => 29 - s.xi) s ≤ 200) ∧ (1000000 : Nat) - s.n < 1000000 - n ∧ True))))) ∧ (decide ((0 : Int) < (↑ws.length
 : Int)) = false → (decide ((0 : Int) ≥ (↑rows.length : Int)) = true → ∃ (s : US), Z2 ((wR (0 : Int) (2 : Int) rows).set (0 : Nat) (IntKind.i64.wrap (at0 (wR (0 : Int) (2 : Int) rows) (0 : Int) + 1)) = s.W ∧
 IntKind.i64.wrap (steps + 1) = s.steps ∧ Z7 (rs = s.rs ∧ Q 32 ∧ ws = s.ws ∧ filtT ws = filtT s.ws ∧ asked = s.asked ∧ Z23 (value = s.value ∧ Q 0 ∧ IntKind.i64.wrap (at0 (wR (0 : Int) (2 : Int) rows) (0 : Int) + 1) = s.a
 ∧ p = p ∧ (↑i : Int) = (↑s.i : Int) ∧ Z16 (rd = s.rd ∧ IntKind.i64.wrap ((↑n : Int) + 1) = (↑s.n : Int) ∧ ((fun (s : US) => baseW p s ∧ (s.i = p.length + 1 ∧ s.W.length = 34) ∧ leaveI s) s ∧ s.n + (fun (s : US) => 10) s
 ≤ 200) ∧ (1000000 : Nat) - s.n < 1000000 - n ∧ True))))) ∧ (decide ((0 : Int) ≥ (↑rows.length : Int)) = false → ∃ (s : US), Z2 ((wR (0 : Int) (2 : Int) rows).set (0 : Nat) (IntKind.i64.wrap (at0 (wR (0 : Int) (2 : Int)
 rows) (0 : Int) + 1)) = s.W ∧ IntKind.i64.wrap (steps + 1) = s.steps ∧ Z7 (rs = s.rs ∧ Q 32 ∧ ws = s.ws ∧ filtT ws = filtT s.ws ∧ asked = s.asked ∧ Z26 ((0 : Int) = (↑s.xi : Int) ∧ value = s.value ∧ Q 0 ∧ AVal.int
 IntKind.i64 (IntKind.i64.wrap (at0 (wR (0 : Int) (2 : Int) rows) (0 : Int) + 1)) = AVal.int IntKind.i64 1 ∧ rows = s.rows ∧ p = p ∧ (↑i : Int) = (↑s.i : Int) ∧ Z16 (rd = s.rd ∧ IntKind.i64.wrap ((↑n : Int) + 1) = (↑s.n :
 Int) ∧ ((fun (s : US) => baseW p s ∧ (s.i = p.length + 1 ∧ s.W.length = 34) ∧ freeI s) s ∧ s.n + (fun (s : US) => 18 - s.xi) s ≤ 200) ∧ (1000000 : Nat) - s.n < 1000000 - n ∧ True))))))))) ∧ ((bk == 1) = false → ((bk ==
 3) = true → seqD.pre (mp1, ()) ∧ badD.pre (Mw.mk (wR (0 : Int) (2 : Int) rows), (1 : Int), ()) ∧ Bk 1 (wR (0 : Int) (2 : Int) rows) ∧ Bk 1 (wR (0 : Int) (2 : Int) rows) ∧ ((bk == 2) = true → ∃ (s : US), Z2 (wR (0 : Int)
 (2 : Int) rows = wR (0 : Int) (2 : Int) s.rows ∧ IntKind.i64.wrap (steps + 1) = s.steps ∧ Z8 (c = s.c ∧ Z9 (rs = s.rs ∧ Q 32 ∧ ws = s.ws ∧ filtT ws = filtT s.ws ∧ asked = s.asked ∧ Z28 (value = s.value ∧ Z19 (AVal.int
 IntKind.i64 bk = AVal.int IntKind.i64 2 ∧ Qc 1 ∧ AVal.int IntKind.i64 (at0 (wR (0 : Int) (2 : Int) rows) (1 : Int)) = AVal.int IntKind.i64 0 ∧ Q 0 ∧ rows = s.rows ∧ takT rows = takT s.rows ∧ Qb true ∧ p = p ∧ (↑i : Int)
 = (↑s.i : Int) ∧ Z16 (rd = s.rd ∧ IntKind.i64.wrap ((↑n : Int) + 1) = (↑s.n : Int) ∧ ((fun (s : US) => baseW p s ∧ lateP p s ∧ (fun (s : US) => True) s) s ∧ s.n + (fun (s : US) => 44) s ≤ 200) ∧ (1000000 : Nat) - s.n <
 1000000 - n ∧ True))))))) ∧ ((bk == 2) = false → ((IntKind.i64.wrap (↑(BitVec.ofInt IntKind.i64.bits (at0 (wR (0 : Int) (2 : Int) rows) (1 : Int)) &&& BitVec.ofInt IntKind.i64.bits (1 : Int)).toNat : Int) == 0) = true →
 ∃ (s : US), Z2 (wR (0 : Int) (2 : Int) rows = wR (0 : Int) (2 : Int) s.rows ∧ IntKind.i64.wrap (steps + 1) = s.steps ∧ Z8 (c = s.c ∧ Z9 (rs = s.rs ∧ Q 32 ∧ ws = s.ws ∧ filtT ws = filtT s.ws ∧ asked = s.asked ∧ Z28 (value
 = s.value ∧ Z19 (AVal.int IntKind.i64 bk = AVal.int IntKind.i64 2 ∧ Qc 1 ∧ AVal.int IntKind.i64 (at0 (wR (0 : Int) (2 : Int) rows) (1 : Int)) = AVal.int IntKind.i64 0 ∧ Q 0 ∧ rows = s.rows ∧ takT rows = takT s.rows ∧ Qb
 true ∧ p = p ∧ (↑i : Int) = (↑s.i : Int) ∧ Z16 (rd = s.rd ∧ IntKind.i64.wrap ((↑n : Int) + 1) = (↑s.n : Int) ∧ ((fun (s : US) => baseW p s ∧ lateP p s ∧ (fun (s : US) => True) s) s ∧ s.n + (fun (s : US) => 44) s ≤ 200) ∧
 (1000000 : Nat) - s.n < 1000000 - n ∧ True))))))) ∧ ((IntKind.i64.wrap (↑(BitVec.ofInt IntKind.i64.bits (at0 (wR (0 : Int) (2 : Int) rows) (1 : Int)) &&& BitVec.ofInt IntKind.i64.bits (1 : Int)).toNat : Int) == 0) =
 false → ∃ (s : US), Z2 (wR (0 : Int) (2 : Int) rows = wR (0 : Int) (2 : Int) s.rows ∧ IntKind.i64.wrap (steps + 1) = s.steps ∧ Z8 (c = s.c ∧ Z9 (rs = s.rs ∧ Q 32 ∧ ws = s.ws ∧ filtT ws = filtT s.ws ∧ asked = s.asked ∧
 Z28 (value = s.value ∧ Z19 (bk = s.bk ∧ Z20 (rows = s.rows ∧ takT rows = takT s.rows ∧ Qb true ∧ p = p ∧ (↑i : Int) = (↑s.i : Int) ∧ Z16 (rd = s.rd ∧ IntKind.i64.wrap ((↑n : Int) + 1) = (↑s.n : Int) ∧ ((fun (s : US) =>
 baseW p s ∧ lateP p s ∧ (fun (s : US) => True) s) s ∧ s.n + (fun (s : US) => 45) s ≤ 200) ∧ (1000000 : Nat) - s.n < 1000000 - n ∧ True)))))))))) ∧ ((bk == 3) = false → ((bk == 2) = true → badD.pre (Mw.mk (wR (0 : Int) (2
 : Int) rows), (0 : Int), ()) ∧ Bk 0 (wR (0 : Int) (2 : Int) rows) ∧ Bk 0 (wR (0 : Int) (2 : Int) rows) ∧ ((bk == 2) = true → ∃ (s : US), Z2 (wR (0 : Int) (2 : Int) rows = wR (0 : Int) (2 : Int) s.rows ∧ IntKind.i64.wrap
 (steps + 1) = s.steps ∧ Z8 (c = s.c ∧ Z9 (rs = s.rs ∧ Q 32 ∧ ws = s.ws ∧ filtT ws = filtT s.ws ∧ asked = s.asked ∧ Z28 (value = s.value ∧ Z19 (AVal.int IntKind.i64 bk = AVal.int IntKind.i64 2 ∧ Qc 1 ∧ AVal.int
 IntKind.i64 (at0 (wR (0 : Int) (2 : Int) rows) (0 : Int)) = AVal.int IntKind.i64 0 ∧ Q 0 ∧ rows = s.rows ∧ takT rows = takT s.rows ∧ Qb true ∧ p = p ∧ (↑i : Int) = (↑s.i : Int) ∧ Z16 (rd = s.rd ∧ IntKind.i64.wrap ((↑n :
 Int) + 1) = (↑s.n : Int) ∧ ((fun (s : US) => baseW p s ∧ lateP p s ∧ (fun (s : US) => True) s) s ∧ s.n + (fun (s : US) => 44) s ≤ 200) ∧ (1000000 : Nat) - s.n < 1000000 - n ∧ True))))))) ∧ ((bk == 2) = false →
 ((IntKind.i64.wrap (↑(BitVec.ofInt IntKind.i64.bits (at0 (wR (0 : Int) (2 : Int) rows) (0 : Int)) &&& BitVec.ofInt IntKind.i64.bits (1 : Int)).toNat : Int) == 0) = true → ∃ (s : US), Z2 (wR (0 : Int) (2 : Int) rows = wR
 (0 : Int) (2 : Int) s.rows ∧ IntKind.i64.wrap (steps + 1) = s.steps ∧ Z8 (c = s.c ∧ Z9 (rs = s.rs ∧ Q 32 ∧ ws = s.ws ∧ filtT ws = filtT s.ws ∧ asked = s.asked ∧ Z28 (value = s.value ∧ Z19 (AVal.int IntKind.i64 bk =
 AVal.int IntKind.i64 2 ∧ Qc 1 ∧ AVal.int IntKind.i64 (at0 (wR (0 : Int) (2 : Int) rows) (0 : Int)) = AVal.int IntKind.i64 0 ∧ Q 0 ∧ rows = s.rows ∧ takT rows = takT s.rows ∧ Qb true ∧ p = p ∧ (↑i : Int) = (↑s.i : Int) ∧
 Z16 (rd = s.rd ∧ IntKind.i64.wrap ((↑n : Int) + 1) = (↑s.n : Int) ∧ ((fun (s : US) => baseW p s ∧ lateP p s ∧ (fun (s : US) => True) s) s ∧ s.n + (fun (s : US) => 44) s ≤ 200) ∧ (1000000 : Nat) - s.n < 1000000 - n ∧
 True))))))) ∧ ((IntKind.i64.wrap (↑(BitVec.ofInt IntKind.i64.bits (at0 (wR (0 : Int) (2 : Int) rows) (0 : Int)) &&& BitVec.ofInt IntKind.i64.bits (1 : Int)).toNat : Int) == 0) = false → ∃ (s : US), Z2 (wR (0 : Int) (2 :
 Int) rows = wR (0 : Int) (2 : Int) s.rows ∧ IntKind.i64.wrap (steps + 1) = s.steps ∧ Z8 (c = s.c ∧ Z9 (rs = s.rs ∧ Q 32 ∧ ws = s.ws ∧ filtT ws = filtT s.ws ∧ asked = s.asked ∧ Z28 (value = s.value ∧ Z19 (bk = s.bk ∧ Z20
 (rows = s.rows ∧ takT rows = takT s.rows ∧ Qb true ∧ p = p ∧ (↑i : Int) = (↑s.i : Int) ∧ Z16 (rd = s.rd ∧ IntKind.i64.wrap ((↑n : Int) + 1) = (↑s.n : Int) ∧ ((fun (s : US) => baseW p s ∧ lateP p s ∧ (fun (s : US) =>
 True) s) s ∧ s.n + (fun (s : US) => 45) s ≤ 200) ∧ (1000000 : Nat) - s.n < 1000000 - n ∧ True)))))))))) ∧ ((bk == 2) = false → ∃ (s : US), Z2 (wR (0 : Int) (2 : Int) rows = wR (0 : Int) (2 : Int) s.rows ∧ steps = s.steps
 ∧ Z8 (c = s.c ∧ Z9 (rs = s.rs ∧ Q 32 ∧ ws = s.ws ∧ filtT ws = filtT s.ws ∧ asked = s.asked ∧ Z28 (value = s.value ∧ Z19 (bk = s.bk ∧ Z20 (rows = s.rows ∧ takT rows = takT s.rows ∧ Qb true ∧ p = p ∧ (↑i : Int) = (↑s.i :
 Int) ∧ Z16 (rd = s.rd ∧ IntKind.i64.wrap ((↑n : Int) + 1) = (↑s.n : Int) ∧ ((fun (s : US) => baseW p s ∧ lateP p s ∧ (fun (s : US) => True) s) s ∧ s.n + (fun (s : US) => 45) s ≤ 200) ∧ (1000000 : Nat) - s.n < 1000000 - n
 ∧ True))))))))))))) ∧ (decide ((↑n : Int) < 200) = false → keysD.pre (Rs.mk (32 : Int) rs, ()) ∧ ws.length * 16 ≤ 140737488355328 ∧ ∃ (s : US), Z2 (wR (0 : Int) (2 : Int) rows = s.W ∧ steps = s.steps ∧ AVal.int
 IntKind.i64 1 = AVal.int IntKind.i64 2 ∧ (0 : Int) = s.a ∧ (0 : Int) = s.a ∧ AVal.int IntKind.i64 0 = AVal.int IntKind.i64 1 ∧ ws = s.ws ∧ Qc 0 ∧ putI (0 : Nat) s ∧ (1000 : Nat) < 1000000 - n ∧ True))) := by kernel_rfl
theorem al_k10_ok (l p : List Op) (cl : Int) (s : US) (hI : (q10 p).I s) : Paid (cA l p cl 18 (q10 p) s) := by
  obtain ⟨n, i, rd, rs, ws, xi, a, c, bk, value, steps, asked, W, rows⟩ := s
  obtain ⟨⟨⟨⟨hpO, hc, hi, hrd, hrs, hws, hwd, hrr⟩, hnod⟩, ⟨he, hne, hrow, hbk⟩, hx⟩, hn⟩ := hI
  have he : i = p.length + 1 := he
  have hne : ws ≠ [] := hne
  have hne0 : 0 < ws.length := List.length_pos_iff.2 hne
  have hrow : rows = rowsT (ws.map (·.pl)) := hrow
  have hbk : bk = 1 ∨ bk = 2 := hbk
  have hr8 : rows ∈ L8 := by rw [hrow]; exact rowsT_in _
  have hrl := rows_len rows hr8
  have hc : c = 1 ∨ c = 2 := hc
  have hi : i ≤ p.length + 1 := hi
  have hrd : rd.length ≤ i := hrd
  have hrs : rs.length ≤ i := hrs
  have hws : ws.length ≤ i := hws
  have hwd : ∀ w ∈ ws, isData w.pl := hwd
  have hrr : ∀ w ∈ rs, 0 ≤ w.pl ∧ w.pl < 3 := hrr
  have hn : n + (45) ≤ 200 := hn
  have hp8 := hpO.1
  have hn2 : n < 200 := by omega
  have hB : ∀ {n xi : Nat} {a bk value steps asked : Int} {W rows : List Int}, baseI p ⟨n, i, rd, rs, ws, xi, a, c, bk, value, steps, asked, W, rows⟩ := mkBase hpO hc hi hrd hrs hws hwd hrr
  refine ⟨?_⟩
  rw [al_k10]
  refine ⟨?_, ?_⟩
  · intro h1
    replace h1 := of_decide_eq_true h1
    first
    | (exfalso; omega)
    | (refine ⟨rfl, ?_, ?_⟩
       · intro h2
         exact absurd ((show decide ((↑(wR (0 : Int) (2 : Int) rows).length : Int) < (34 : Int)) = false by kernel_rfl).symm.trans h2) (by decide)
       · intro h3
         replace h3 := of_decide_eq_false h3
         first
         | (exfalso; omega)
         | (refine ⟨rfl, rfl, ?_, ?_⟩
            · intro h4
              exact absurd ((show decide ((↑(wR (0 : Int) (2 : Int) rows).length : Int) < (34 : Int)) = false by kernel_rfl).symm.trans h4) (by decide)
            · intro h5
              replace h5 := of_decide_eq_false h5
              first
              | (exfalso; omega)
              | (refine ⟨rfl, ?_, ?_⟩
                 · intro h6
                   replace h6 := eq_of_beq h6
                   first
                   | (exfalso; omega)
                   | (refine ⟨(And.intro (show (0 : Int) ≤ (0 : Int) from (by decide)) (show (0 : Int) < ((Mw.mk (wR (0 : Int) (2 : Int) rows)).ws.length : Int) from (show _ < ((34 : Nat) : Int) by decide))), ?_, ?_, ?_, ?_, ?_, ?_⟩
                      · exact ⟨(by decide), (show _ < ((34 : Nat) : Int) by decide)⟩
                      · exact ⟨(by decide), (show _ < ((34 : Nat) : Int) by decide)⟩
                      · exact ⟨(by decide), (show _ < ((34 : Nat) : Int) by decide)⟩
                      · exact ⟨(by decide), (show _ < ((34 : Nat) : Int) by decide)⟩
                      · intro h7
                        exact absurd ((show decide (IntKind.i64.wrap (at0 (wR (0 : Int) (2 : Int) rows) (0 : Int) + (1 : Int)) > (1000 : Int)) = false by kernel_rfl).symm.trans h7) (by decide)
                      · intro h8
                        refine ⟨?_, ?_⟩
                        · intro h9
                          replace h9 := of_decide_eq_true h9
                          first
                          | (exfalso; omega)
                          | (refine ⟨?_, ?_⟩
                             · intro h10
                               replace h10 := eq_of_beq h10
                               first
                               | (exfalso; omega)
                               | (refine ⟨?_, ?_⟩
                                  · intro h11
                                    exact absurd ((show (!IntKind.i64.wrap (at0 (wR (0 : Int) (2 : Int) rows) (0 : Int) + (1 : Int)) == (1 : Int)) = false by kernel_rfl).symm.trans h11) (by decide)
                                  · intro h12
                                    refine ⟨?_, ?_⟩
                                    · intro h13
                                      replace h13 := of_decide_eq_true h13
                                      first
                                      | (exfalso; omega)
                                      | (exact ⟨⟨n + 1, i, rd, rs, ws, 0, a, c, bk, value, IntKind.i64.wrap (steps + (1 : Int)), asked, (wR (0 : Int) (2 : Int) rows).set (0 : Nat) (IntKind.i64.wrap (at0 (wR (0 : Int) (2 : Int) rows) (0 : Int) + (1 : Int))), rows⟩, (t2 ⟨rfl, rfl, t7 ⟨rfl, rfl, rfl, rfl, rfl, t22 ⟨rfl, rfl, rfl, rfl, rfl, rfl, rfl, t16 ⟨rfl, (wN (by omega)), ⟨⟨(mkBW hB hnod), ⟨⟨(show i = p.length + 1 by omega), (by first | rfl | exact hW | (simp only [List.length_set]; first | rfl | exact hW))⟩, ⟨(show 0 < (ws).length by omega), (And.intro hrl (rows_mem rows hr8)), (fun j hj => absurd hj (Nat.not_lt_zero j)), keep_of rfl hne⟩⟩⟩, (show (n + 1) + ((29 : Nat) - (0)) ≤ 200 by omega)⟩, (mA hn2), trivial⟩⟩⟩⟩)⟩)
                                    · intro h14
                                      replace h14 := of_decide_eq_false h14
                                      first
                                      | (exfalso; omega)
                                      | (refine ⟨?_, ?_⟩
                                         · intro h15
                                           replace h15 := of_decide_eq_true h15
                                           first
                                           | (exfalso; omega)
                                           | (exact ⟨⟨n + 1, i, rd, rs, ws, xi, IntKind.i64.wrap (at0 (wR (0 : Int) (2 : Int) rows) (0 : Int) + (1 : Int)), c, bk, value, IntKind.i64.wrap (steps + (1 : Int)), asked, (wR (0 : Int) (2 : Int) rows).set (0 : Nat) (IntKind.i64.wrap (at0 (wR (0 : Int) (2 : Int) rows) (0 : Int) + (1 : Int))), rows⟩, (t2 ⟨rfl, rfl, t7 ⟨rfl, rfl, rfl, rfl, rfl, t23 ⟨rfl, rfl, rfl, rfl, rfl, t16 ⟨rfl, (wN (by omega)), ⟨⟨(mkBW hB hnod), ⟨⟨(show i = p.length + 1 by omega), (by first | rfl | exact hW | (simp only [List.length_set]; first | rfl | exact hW))⟩, (by exfalso; omega)⟩⟩, (show (n + 1) + ((10 : Nat)) ≤ 200 by omega)⟩, (mA hn2), trivial⟩⟩⟩⟩)⟩)
                                         · intro h16
                                           replace h16 := of_decide_eq_false h16
                                           first
                                           | (exfalso; omega)
                                           | (exact ⟨⟨n + 1, i, rd, rs, ws, 0, a, c, bk, value, IntKind.i64.wrap (steps + (1 : Int)), asked, (wR (0 : Int) (2 : Int) rows).set (0 : Nat) (IntKind.i64.wrap (at0 (wR (0 : Int) (2 : Int) rows) (0 : Int) + (1 : Int))), rows⟩, (t2 ⟨rfl, rfl, t7 ⟨rfl, rfl, rfl, rfl, rfl, t26 ⟨rfl, rfl, rfl, rfl, rfl, rfl, rfl, t16 ⟨rfl, (wN (by omega)), ⟨⟨(mkBW hB hnod), ⟨⟨(show i = p.length + 1 by omega), (by first | rfl | exact hW | (simp only [List.length_set]; first | rfl | exact hW))⟩, (by exfalso; omega)⟩⟩, (show (n + 1) + ((18 : Nat) - (0)) ≤ 200 by omega)⟩, (mA hn2), trivial⟩⟩⟩⟩)⟩)))
                             · intro h17
                               replace h17 := ne_of_beq_false h17
                               first
                               | (exfalso; omega)
                               | (exact ⟨⟨n + 1, i, rd, rs, ws, 0, a, c, bk, value, IntKind.i64.wrap (steps + (1 : Int)), asked, W, rows⟩, (t2 ⟨rfl, rfl, t8 ⟨rfl, t9 ⟨rfl, rfl, rfl, rfl, rfl, t27 ⟨rfl, rfl, rfl, rfl, rfl, rfl, rfl, rfl, rfl, rfl, t16 ⟨rfl, (wN (by omega)), ⟨⟨(mkBW hB hnod), ⟨⟨(show i = p.length + 1 by omega), hne, hrow, hbk⟩, (show (0) < (rs).length by first | omega | (simp only [List.length_map] at *; omega))⟩⟩, (show (n + 1) + ((43 : Nat) - (0)) ≤ 200 by omega)⟩, (mA hn2), trivial⟩⟩⟩⟩⟩)⟩))
                        · intro h18
                          replace h18 := of_decide_eq_false h18
                          first
                          | (exfalso; omega)
                          | (refine ⟨?_, ?_⟩
                             · intro h19
                               replace h19 := of_decide_eq_true h19
                               first
                               | (exfalso; omega)
                               | (exact ⟨⟨n + 1, i, rd, rs, ws, 0, a, c, bk, value, IntKind.i64.wrap (steps + (1 : Int)), asked, (wR (0 : Int) (2 : Int) rows).set (0 : Nat) (IntKind.i64.wrap (at0 (wR (0 : Int) (2 : Int) rows) (0 : Int) + (1 : Int))), rows⟩, (t2 ⟨rfl, rfl, t7 ⟨rfl, rfl, rfl, rfl, rfl, t22 ⟨rfl, rfl, rfl, rfl, rfl, rfl, rfl, t16 ⟨rfl, (wN (by omega)), ⟨⟨(mkBW hB hnod), ⟨⟨(show i = p.length + 1 by omega), (by first | rfl | exact hW | (simp only [List.length_set]; first | rfl | exact hW))⟩, ⟨(show 0 < (ws).length by omega), (And.intro hrl (rows_mem rows hr8)), (fun j hj => absurd hj (Nat.not_lt_zero j)), keep_of rfl hne⟩⟩⟩, (show (n + 1) + ((29 : Nat) - (0)) ≤ 200 by omega)⟩, (mA hn2), trivial⟩⟩⟩⟩)⟩)
                             · intro h20
                               replace h20 := of_decide_eq_false h20
                               first
                               | (exfalso; omega)
                               | (refine ⟨?_, ?_⟩
                                  · intro h21
                                    replace h21 := of_decide_eq_true h21
                                    first
                                    | (exfalso; omega)
                                    | (exact ⟨⟨n + 1, i, rd, rs, ws, xi, IntKind.i64.wrap (at0 (wR (0 : Int) (2 : Int) rows) (0 : Int) + (1 : Int)), c, bk, value, IntKind.i64.wrap (steps + (1 : Int)), asked, (wR (0 : Int) (2 : Int) rows).set (0 : Nat) (IntKind.i64.wrap (at0 (wR (0 : Int) (2 : Int) rows) (0 : Int) + (1 : Int))), rows⟩, (t2 ⟨rfl, rfl, t7 ⟨rfl, rfl, rfl, rfl, rfl, t23 ⟨rfl, rfl, rfl, rfl, rfl, t16 ⟨rfl, (wN (by omega)), ⟨⟨(mkBW hB hnod), ⟨⟨(show i = p.length + 1 by omega), (by first | rfl | exact hW | (simp only [List.length_set]; first | rfl | exact hW))⟩, (by exfalso; omega)⟩⟩, (show (n + 1) + ((10 : Nat)) ≤ 200 by omega)⟩, (mA hn2), trivial⟩⟩⟩⟩)⟩)
                                  · intro h22
                                    replace h22 := of_decide_eq_false h22
                                    first
                                    | (exfalso; omega)
                                    | (exact ⟨⟨n + 1, i, rd, rs, ws, 0, a, c, bk, value, IntKind.i64.wrap (steps + (1 : Int)), asked, (wR (0 : Int) (2 : Int) rows).set (0 : Nat) (IntKind.i64.wrap (at0 (wR (0 : Int) (2 : Int) rows) (0 : Int) + (1 : Int))), rows⟩, (t2 ⟨rfl, rfl, t7 ⟨rfl, rfl, rfl, rfl, rfl, t26 ⟨rfl, rfl, rfl, rfl, rfl, rfl, rfl, t16 ⟨rfl, (wN (by omega)), ⟨⟨(mkBW hB hnod), ⟨⟨(show i = p.length + 1 by omega), (by first | rfl | exact hW | (simp only [List.length_set]; first | rfl | exact hW))⟩, (by exfalso; omega)⟩⟩, (show (n + 1) + ((18 : Nat) - (0)) ≤ 200 by omega)⟩, (mA hn2), trivial⟩⟩⟩⟩)⟩))))
                 · intro h23
                   replace h23 := ne_of_beq_false h23
                   first
                   | (exfalso; omega)
                   | (refine ⟨?_, ?_⟩
                      · intro h24
                        replace h24 := eq_of_beq h24
                        first
                        | (exfalso; omega)
                        | (refine ⟨rfl, (And.intro (show (0 : Int) ≤ (1 : Int) from (by decide)) (show (1 : Int) < ((Mw.mk (wR (0 : Int) (2 : Int) rows)).ws.length : Int) from (show _ < ((34 : Nat) : Int) by decide))), ?_, ?_, ?_, ?_⟩
                           · exact ⟨(by decide), (show _ < ((34 : Nat) : Int) by decide)⟩
                           · exact ⟨(by decide), (show _ < ((34 : Nat) : Int) by decide)⟩
                           · intro h25
                             replace h25 := eq_of_beq h25
                             first
                             | (exfalso; omega)
                             | (exact ⟨⟨n + 1, i, rd, rs, ws, xi, a, c, bk, value, IntKind.i64.wrap (steps + (1 : Int)), asked, W, rows⟩, (t2 ⟨rfl, rfl, t8 ⟨rfl, t9 ⟨rfl, rfl, rfl, rfl, rfl, t28 ⟨rfl, t19 ⟨(congrArg (AVal.int IntKind.i64) (show bk = (2 : Int) by omega)), rfl, rfl, rfl, rfl, rfl, rfl, rfl, rfl, t16 ⟨rfl, (wN (by omega)), ⟨⟨(mkBW hB hnod), ⟨⟨(show i = p.length + 1 by omega), hne, hrow, hbk⟩, trivial⟩⟩, (show (n + 1) + ((44 : Nat)) ≤ 200 by omega)⟩, (mA hn2), trivial⟩⟩⟩⟩⟩⟩)⟩)
                           · intro h26
                             replace h26 := ne_of_beq_false h26
                             first
                             | (exfalso; omega)
                             | (refine ⟨?_, ?_⟩
                                · intro h27
                                  exact ⟨⟨n + 1, i, rd, rs, ws, xi, a, c, bk, value, IntKind.i64.wrap (steps + (1 : Int)), asked, W, rows⟩, (t2 ⟨rfl, rfl, t8 ⟨rfl, t9 ⟨rfl, rfl, rfl, rfl, rfl, t28 ⟨rfl, t19 ⟨(congrArg (AVal.int IntKind.i64) (show bk = (2 : Int) by omega)), rfl, rfl, rfl, rfl, rfl, rfl, rfl, rfl, t16 ⟨rfl, (wN (by omega)), ⟨⟨(mkBW hB hnod), ⟨⟨(show i = p.length + 1 by omega), hne, hrow, hbk⟩, trivial⟩⟩, (show (n + 1) + ((44 : Nat)) ≤ 200 by omega)⟩, (mA hn2), trivial⟩⟩⟩⟩⟩⟩)⟩
                                · intro h28
                                  exact absurd ((show (IntKind.i64.wrap (↑(BitVec.ofInt IntKind.i64.bits (at0 (wR (0 : Int) (2 : Int) rows) (1 : Int)) &&& BitVec.ofInt IntKind.i64.bits (1 : Int)).toNat : Int) == (0 : Int)) = true by kernel_rfl).symm.trans h28) (by decide)))
                      · intro h29
                        replace h29 := ne_of_beq_false h29
                        first
                        | (exfalso; omega)
                        | (refine ⟨?_, ?_⟩
                           · intro h30
                             replace h30 := eq_of_beq h30
                             first
                             | (exfalso; omega)
                             | (refine ⟨(And.intro (show (0 : Int) ≤ (0 : Int) from (by decide)) (show (0 : Int) < ((Mw.mk (wR (0 : Int) (2 : Int) rows)).ws.length : Int) from (show _ < ((34 : Nat) : Int) by decide))), ?_, ?_, ?_, ?_⟩
                                · exact ⟨(by decide), (show _ < ((34 : Nat) : Int) by decide)⟩
                                · exact ⟨(by decide), (show _ < ((34 : Nat) : Int) by decide)⟩
                                · intro h31
                                  replace h31 := eq_of_beq h31
                                  first
                                  | (exfalso; omega)
                                  | (exact ⟨⟨n + 1, i, rd, rs, ws, xi, a, c, bk, value, IntKind.i64.wrap (steps + (1 : Int)), asked, W, rows⟩, (t2 ⟨rfl, rfl, t8 ⟨rfl, t9 ⟨rfl, rfl, rfl, rfl, rfl, t28 ⟨rfl, t19 ⟨(congrArg (AVal.int IntKind.i64) (show bk = (2 : Int) by omega)), rfl, rfl, rfl, rfl, rfl, rfl, rfl, rfl, t16 ⟨rfl, (wN (by omega)), ⟨⟨(mkBW hB hnod), ⟨⟨(show i = p.length + 1 by omega), hne, hrow, hbk⟩, trivial⟩⟩, (show (n + 1) + ((44 : Nat)) ≤ 200 by omega)⟩, (mA hn2), trivial⟩⟩⟩⟩⟩⟩)⟩)
                                · intro h32
                                  replace h32 := ne_of_beq_false h32
                                  first
                                  | (exfalso; omega)
                                  | (refine ⟨?_, ?_⟩
                                     · intro h33
                                       exact ⟨⟨n + 1, i, rd, rs, ws, xi, a, c, bk, value, IntKind.i64.wrap (steps + (1 : Int)), asked, W, rows⟩, (t2 ⟨rfl, rfl, t8 ⟨rfl, t9 ⟨rfl, rfl, rfl, rfl, rfl, t28 ⟨rfl, t19 ⟨(congrArg (AVal.int IntKind.i64) (show bk = (2 : Int) by omega)), rfl, rfl, rfl, rfl, rfl, rfl, rfl, rfl, t16 ⟨rfl, (wN (by omega)), ⟨⟨(mkBW hB hnod), ⟨⟨(show i = p.length + 1 by omega), hne, hrow, hbk⟩, trivial⟩⟩, (show (n + 1) + ((44 : Nat)) ≤ 200 by omega)⟩, (mA hn2), trivial⟩⟩⟩⟩⟩⟩)⟩
                                     · intro h34
                                       exact absurd ((show (IntKind.i64.wrap (↑(BitVec.ofInt IntKind.i64.bits (at0 (wR (0 : Int) (2 : Int) rows) (0 : Int)) &&& BitVec.ofInt IntKind.i64.bits (1 : Int)).toNat : Int) == (0 : Int)) = true by kernel_rfl).symm.trans h34) (by decide)))
                           · intro h35
                             replace h35 := ne_of_beq_false h35
                             first
                             | (exfalso; omega)
                             | (exact ⟨⟨n + 1, i, rd, rs, ws, xi, a, c, bk, value, steps, asked, W, rows⟩, (t2 ⟨rfl, rfl, t8 ⟨rfl, t9 ⟨rfl, rfl, rfl, rfl, rfl, t28 ⟨rfl, t19 ⟨rfl, t20 ⟨rfl, rfl, rfl, rfl, rfl, t16 ⟨rfl, (wN (by omega)), ⟨⟨(mkBW hB hnod), ⟨⟨(show i = p.length + 1 by omega), hne, hrow, hbk⟩, trivial⟩⟩, (show (n + 1) + ((45 : Nat)) ≤ 200 by omega)⟩, (mA hn2), trivial⟩⟩⟩⟩⟩⟩⟩)⟩))))))
  · intro h36
    exact absurd (of_decide_eq_false h36) (by omega)
theorem al_k11 : Go.Sy.Tree.holds (cA l p cl 18 (q11 p) ⟨n, i, rd, rs, ws, xi, a, c, bk, value, steps, asked, W, rows⟩) = ( (decide ((↑n : Int) < 200) = true → sizeD.pre (mp1, ()) ∧ (decide ((↑(wR (0 : Int) (2 : Int)
 rows).length : Int) < 34) = true → (decide ((↑i : Int) > (↑p.length : Int)) = true → ∃ (s : US), Z2 (wR (0 : Int) (2 : Int) rows = s.W ∧ steps = s.steps ∧ Z7 (rs = s.rs ∧ Q 32 ∧ ws = s.ws ∧ filtT ws = filtT s.ws ∧ asked
 = s.asked ∧ Qn ∧ AVal.int IntKind.i64 1 = AVal.int IntKind.i64 2 ∧ AVal.int IntKind.i64 4 = AVal.int IntKind.i64 0 ∧ value = s.value ∧ (0 : Int) = s.a ∧ (0 : Int) = s.a ∧ p = p ∧ (↑i : Int) = (↑s.i : Int) ∧ constA
 (Value.bool false) = AVal.bool false ∧ Qc 1 ∧ rd = s.rd ∧ IntKind.i64.wrap ((↑n : Int) + 1) = (↑s.n : Int) ∧ ((fun (s : US) => baseW p s ∧ (s.i = p.length + 1 ∧ s.W.length = 34) ∧ doneI s) s ∧ s.n + (fun (s : US) => 0) s
 ≤ 200) ∧ (1000000 : Nat) - s.n < 1000000 - n ∧ True))) ∧ (decide ((↑i : Int) > (↑p.length : Int)) = false → (decide ((↑i : Int) > 0) = true → Bi i p ∧ Bi i p ∧ (((at2 p (IntKind.i64.wrap ((↑i : Int) - 1))).kd == 0) =
 true → Bi i p ∧ Bi i p ∧ (rd.length + [Wo.mk (at2 p (IntKind.i64.wrap ((↑i : Int) - 1))).pl value].length) * 16 ≤ 140737488355328 ∧ Stuck "sel: none") ∧ (((at2 p (IntKind.i64.wrap ((↑i : Int) - 1))).kd == 0) = false →
 Stuck "sel: none")) ∧ (decide ((↑i : Int) > 0) = false → Stuck "sel: none"))) ∧ (decide ((↑(wR (0 : Int) (2 : Int) rows).length : Int) < 34) = false → mayD.pre (mp1, ()) ∧ sizeD.pre (mp1, ()) ∧ (decide ((↑(wR (0 : Int)
 (2 : Int) rows).length : Int) < 34) = true → ∃ (s : US), Z2 (wR (0 : Int) (2 : Int) rows = wR (0 : Int) (2 : Int) s.rows ∧ steps = s.steps ∧ Z8 (c = s.c ∧ Z9 (rs = s.rs ∧ Q 32 ∧ ws = s.ws ∧ filtT ws = filtT s.ws ∧ asked
 = s.asked ∧ Z28 (value = s.value ∧ Z47 (rows = s.rows ∧ takT rows = takT s.rows ∧ Qb true ∧ p = p ∧ (↑i : Int) = (↑s.i : Int) ∧ Z16 (rd = s.rd ∧ IntKind.i64.wrap ((↑n : Int) + 1) = (↑s.n : Int) ∧ ((fun (s : US) => baseW
 p s ∧ lateP p s ∧ (fun (s : US) => True) s) s ∧ s.n + (fun (s : US) => 44) s ≤ 200) ∧ (1000000 : Nat) - s.n < 1000000 - n ∧ True))))))) ∧ (decide ((↑(wR (0 : Int) (2 : Int) rows).length : Int) < 34) = false → clockD.pre
 (mp1, ()) ∧ badD.pre (Mw.mk (wR (0 : Int) (2 : Int) rows), (0 : Int), ()) ∧ Bk 0 (wR (0 : Int) (2 : Int) rows) ∧ Bk 0 (wR (0 : Int) (2 : Int) rows) ∧ ((at0 (wR (0 : Int) (2 : Int) rows) (0 : Int) == 0) = true → Bk 0 (wR
 (0 : Int) (2 : Int) rows) ∧ Bk 0 (wR (0 : Int) (2 : Int) rows) ∧ ((at0 (wR (0 : Int) (2 : Int) rows) (0 : Int) == 0) = true → (decide ((0 : Int) < (↑rs.length : Int)) = true → ∃ (s : US), Z2 ((wR (0 : Int) (2 : Int)
 rows).set (0 : Nat) (1 : Int) = wR (1 : Int) (2 : Int) s.rows ∧ IntKind.i64.wrap (steps + 1) = s.steps ∧ Z8 (c = s.c ∧ Z9 (rs = s.rs ∧ Q 32 ∧ ws = s.ws ∧ filtT ws = filtT s.ws ∧ asked = s.asked ∧ Z27 ((0 : Int) = (↑s.xi
 : Int) ∧ value = s.value ∧ Z29 ((2 : Int) = s.bk ∧ rows = s.rows ∧ takT rows = takT s.rows ∧ Qb true ∧ p = p ∧ (↑i : Int) = (↑s.i : Int) ∧ Z16 (rd = s.rd ∧ IntKind.i64.wrap ((↑n : Int) + 1) = (↑s.n : Int) ∧ ((fun (s :
 US) => baseW p s ∧ lateP p s ∧ (fun (s : US) => s.xi < s.rs.length) s) s ∧ s.n + (fun (s : US) => 43 - s.xi) s ≤ 200) ∧ (1000000 : Nat) - s.n < 1000000 - n ∧ True))))))) ∧ (decide ((0 : Int) < (↑rs.length : Int)) = false
 → (decide ((0 : Int) < (↑ws.length : Int)) = true → ∃ (s : US), Z2 ((wR (0 : Int) (2 : Int) rows).set (0 : Nat) (1 : Int) = s.W ∧ IntKind.i64.wrap (steps + 1) = s.steps ∧ Z7 (rs = s.rs ∧ Q 32 ∧ ws = s.ws ∧ filtT ws =
 filtT s.ws ∧ asked = s.asked ∧ Z22 ((0 : Int) = (↑s.xi : Int) ∧ value = s.value ∧ Z29 (rows = s.rows ∧ p = p ∧ (↑i : Int) = (↑s.i : Int) ∧ Z16 (rd = s.rd ∧ IntKind.i64.wrap ((↑n : Int) + 1) = (↑s.n : Int) ∧ ((fun (s :
 US) => baseW p s ∧ (s.i = p.length + 1 ∧ s.W.length = 34) ∧ writeI s) s ∧ s.n + (fun (s : US) => 29 - s.xi) s ≤ 200) ∧ (1000000 : Nat) - s.n < 1000000 - n ∧ True)))))) ∧ (decide ((0 : Int) < (↑ws.length : Int)) = false →
 (decide ((0 : Int) ≥ (↑rows.length : Int)) = true → ∃ (s : US), Z2 ((wR (0 : Int) (2 : Int) rows).set (0 : Nat) (1 : Int) = s.W ∧ IntKind.i64.wrap (steps + 1) = s.steps ∧ Z7 (rs = s.rs ∧ Q 32 ∧ ws = s.ws ∧ filtT ws =
 filtT s.ws ∧ asked = s.asked ∧ Z23 (value = s.value ∧ Q 0 ∧ (1 : Int) = s.a ∧ p = p ∧ (↑i : Int) = (↑s.i : Int) ∧ Z16 (rd = s.rd ∧ IntKind.i64.wrap ((↑n : Int) + 1) = (↑s.n : Int) ∧ ((fun (s : US) => baseW p s ∧ (s.i =
 p.length + 1 ∧ s.W.length = 34) ∧ leaveI s) s ∧ s.n + (fun (s : US) => 10) s ≤ 200) ∧ (1000000 : Nat) - s.n < 1000000 - n ∧ True))))) ∧ (decide ((0 : Int) ≥ (↑rows.length : Int)) = false → ∃ (s : US), Z2 ((wR (0 : Int)
 (2 : Int) rows).set (0 : Nat) (1 : Int) = s.W ∧ IntKind.i64.wrap (steps + 1) = s.steps ∧ Z7 (rs = s.rs ∧ Q 32 ∧ ws = s.ws ∧ filtT ws = filtT s.ws ∧ asked = s.asked ∧ Z26 ((0 : Int) = (↑s.xi : Int) ∧ value = s.value ∧ Z29
 (rows = s.rows ∧ p = p ∧ (↑i : Int) = (↑s.i : Int) ∧ Z16 (rd = s.rd ∧ IntKind.i64.wrap ((↑n : Int) + 1) = (↑s.n : Int) ∧ ((fun (s : US) => baseW p s ∧ (s.i = p.length + 1 ∧ s.W.length = 34) ∧ freeI s) s ∧ s.n + (fun (s :
 US) => 18 - s.xi) s ≤ 200) ∧ (1000000 : Nat) - s.n < 1000000 - n ∧ True))))))))) ∧ ((at0 (wR (0 : Int) (2 : Int) rows) (0 : Int) == 0) = false → (decide (at0 (wR (0 : Int) (2 : Int) rows) (0 : Int) > 1000) = true →
 (decide ((0 : Int) < (↑(takT rows).length : Int)) = true → Stuck "sel: none") ∧ (decide ((0 : Int) < (↑(takT rows).length : Int)) = false → Stuck "sel: none")) ∧ (decide (at0 (wR (0 : Int) (2 : Int) rows) (0 : Int) >
 1000) = false → (decide ((0 : Int) < (↑rs.length : Int)) = true → ∃ (s : US), Z2 ((wR (0 : Int) (2 : Int) rows).set (0 : Nat) (1 : Int) = wR (1 : Int) (2 : Int) s.rows ∧ IntKind.i64.wrap (steps + 1) = s.steps ∧ Z8 (c =
 s.c ∧ Z9 (rs = s.rs ∧ Q 32 ∧ ws = s.ws ∧ filtT ws = filtT s.ws ∧ asked = s.asked ∧ Z27 ((0 : Int) = (↑s.xi : Int) ∧ value = s.value ∧ Q 0 ∧ AVal.int IntKind.i64 (at0 (wR (0 : Int) (2 : Int) rows) (0 : Int)) = AVal.int
 IntKind.i64 1 ∧ (2 : Int) = s.bk ∧ rows = s.rows ∧ takT rows = takT s.rows ∧ Qb true ∧ p = p ∧ (↑i : Int) = (↑s.i : Int) ∧ Z16 (rd = s.rd ∧ IntKind.i64.wrap ((↑n : Int) + 1) = (↑s.n : Int) ∧ ((fun (s : US) => baseW p s ∧
 lateP p s ∧ (fun (s : US) => s.xi < s.rs.length) s) s ∧ s.n + (fun (s : US) => 43 - s.xi) s ≤ 200) ∧ (1000000 : Nat) - s.n < 1000000 - n ∧ True)))))) ∧ (decide ((0 : Int) < (↑rs.length : Int)) = false → (decide ((0 :
 Int) < (↑ws.length : Int)) = true → ∃ (s : US), Z2 ((wR (0 : Int) (2 : Int) rows).set (0 : Nat) (1 : Int) = s.W ∧ IntKind.i64.wrap (steps + 1) = s.steps ∧ Z7 (rs = s.rs ∧ Q 32 ∧ ws = s.ws ∧ filtT ws = filtT s.ws ∧ asked
 = s.asked ∧ Z22 ((0 : Int) = (↑s.xi : Int) ∧ value = s.value ∧ Q 0 ∧ AVal.int IntKind.i64 (at0 (wR (0 : Int) (2 : Int) rows) (0 : Int)) = AVal.int IntKind.i64 1 ∧ rows = s.rows ∧ p = p ∧ (↑i : Int) = (↑s.i : Int) ∧ Z16
 (rd = s.rd ∧ IntKind.i64.wrap ((↑n : Int) + 1) = (↑s.n : Int) ∧ ((fun (s : US) => baseW p s ∧ (s.i = p.length + 1 ∧ s.W.length = 34) ∧ writeI s) s ∧ s.n + (fun (s : US) => 29 - s.xi) s ≤ 200) ∧ (1000000 : Nat) - s.n <
 1000000 - n ∧ True))))) ∧ (decide ((0 : Int) < (↑ws.length : Int)) = false → (decide ((0 : Int) ≥ (↑rows.length : Int)) = true → ∃ (s : US), Z2 ((wR (0 : Int) (2 : Int) rows).set (0 : Nat) (1 : Int) = s.W ∧
 IntKind.i64.wrap (steps + 1) = s.steps ∧ Z7 (rs = s.rs ∧ Q 32 ∧ ws = s.ws ∧ filtT ws = filtT s.ws ∧ asked = s.asked ∧ Z23 (value = s.value ∧ Q 0 ∧ at0 (wR (0 : Int) (2 : Int) rows) (0 : Int) = s.a ∧ p = p ∧ (↑i : Int) =
 (↑s.i : Int) ∧ Z16 (rd = s.rd ∧ IntKind.i64.wrap ((↑n : Int) + 1) = (↑s.n : Int) ∧ ((fun (s : US) => baseW p s ∧ (s.i = p.length + 1 ∧ s.W.length = 34) ∧ leaveI s) s ∧ s.n + (fun (s : US) => 10) s ≤ 200) ∧ (1000000 :
 Nat) - s.n < 1000000 - n ∧ True))))) ∧ (decide ((0 : Int) ≥ (↑rows.length : Int)) = false → ∃ (s : US), Z2 ((wR (0 : Int) (2 : Int) rows).set (0 : Nat) (1 : Int) = s.W ∧ IntKind.i64.wrap (steps + 1) = s.steps ∧ Z7 (rs =
 s.rs ∧ Q 32 ∧ ws = s.ws ∧ filtT ws = filtT s.ws ∧ asked = s.asked ∧ Z26 ((0 : Int) = (↑s.xi : Int) ∧ value = s.value ∧ Q 0 ∧ AVal.int IntKind.i64 (at0 (wR (0 : Int) (2 : Int) rows) (0 : Int)) = AVal.int IntKind.i64 1 ∧
 rows = s.rows ∧ p = p ∧ (↑i : Int) = (↑s.i : Int) ∧ Z16 (rd = s.rd ∧ IntKind.i64.wrap ((↑n : Int) + 1) = (↑s.n : Int) ∧ ((fun (s : US) => baseW p s ∧ (s.i = p.length + 1 ∧ s.W.length = 34) ∧ freeI s) s ∧ s.n + (fun (s :
 US) => 18 - s.xi) s ≤ 200) ∧ (1000000 : Nat) - s.n < 1000000 - n ∧ True)))))))))) ∧ ((at0 (wR (0 : Int) (2 : Int) rows) (0 : Int) == 0) = false → ((at0 (wR (0 : Int) (2 : Int) rows) (0 : Int) == 0) = true → (decide ((0 :
 Int) < (↑rs.length : Int)) = true → ∃ (s : US), Z2 (wR (0 : Int) (2 : Int) rows = wR (1 : Int) (2 : Int) s.rows ∧ IntKind.i64.wrap (steps + 1) = s.steps ∧ Z8 (c = s.c ∧ Z9 (rs = s.rs ∧ Q 32 ∧ ws = s.ws ∧ filtT ws = filtT
 s.ws ∧ asked = s.asked ∧ Z27 ((0 : Int) = (↑s.xi : Int) ∧ value = s.value ∧ Z29 ((2 : Int) = s.bk ∧ rows = s.rows ∧ takT rows = takT s.rows ∧ Qb true ∧ p = p ∧ (↑i : Int) = (↑s.i : Int) ∧ Z16 (rd = s.rd ∧
 IntKind.i64.wrap ((↑n : Int) + 1) = (↑s.n : Int) ∧ ((fun (s : US) => baseW p s ∧ lateP p s ∧ (fun (s : US) => s.xi < s.rs.length) s) s ∧ s.n + (fun (s : US) => 43 - s.xi) s ≤ 200) ∧ (1000000 : Nat) - s.n < 1000000 - n ∧
 True))))))) ∧ (decide ((0 : Int) < (↑rs.length : Int)) = false → (decide ((0 : Int) < (↑ws.length : Int)) = true → ∃ (s : US), Z2 (wR (0 : Int) (2 : Int) rows = s.W ∧ IntKind.i64.wrap (steps + 1) = s.steps ∧ Z7 (rs =
 s.rs ∧ Q 32 ∧ ws = s.ws ∧ filtT ws = filtT s.ws ∧ asked = s.asked ∧ Z22 ((0 : Int) = (↑s.xi : Int) ∧ value = s.value ∧ Z29 (rows = s.rows ∧ p = p ∧ (↑i : Int) = (↑s.i : Int) ∧ Z16 (rd = s.rd ∧ IntKind.i64.wrap ((↑n :
 Int) + 1) = (↑s.n : Int) ∧ ((fun (s : US) => baseW p s ∧ (s.i = p.length + 1 ∧ s.W.length = 34) ∧ writeI s) s ∧ s.n + (fun (s : US) => 29 - s.xi) s ≤ 200) ∧ (1000000 : Nat) - s.n < 1000000 - n ∧ True)))))) ∧ (decide ((0
 : Int) < (↑ws.length : Int)) = false → (decide ((0 : Int) ≥ (↑rows.length : Int)) = true → ∃ (s : US), Z2 (wR (0 : Int) (2 : Int) rows = s.W ∧ IntKind.i64.wrap (steps + 1) = s.steps ∧ Z7 (rs = s.rs ∧ Q 32 ∧ ws = s.ws ∧
 filtT ws = filtT s.ws ∧ asked = s.asked ∧ Z23 (value = s.value ∧ Q 0 ∧ (1 : Int) = s.a ∧ p = p ∧ (↑i : Int) = (↑s.i : Int) ∧ Z16 (rd = s.rd ∧ IntKind.i64.wrap ((↑n : Int) + 1) = (↑s.n : Int) ∧ ((fun (s : US) => baseW p s
 ∧ (s.i = p.length + 1 ∧ s.W.length = 34) ∧ leaveI s) s ∧ s.n + (fun (s : US) => 10) s ≤ 200) ∧ (1000000 : Nat) - s.n < 1000000 - n ∧ True))))) ∧ (decide ((0 : Int) ≥ (↑rows.length : Int)) = false → ∃ (s : US), Z2 (wR (0
 : Int) (2 : Int) rows = s.W ∧ IntKind.i64.wrap (steps + 1) = s.steps ∧ Z7 (rs = s.rs ∧ Q 32 ∧ ws = s.ws ∧ filtT ws = filtT s.ws ∧ asked = s.asked ∧ Z26 ((0 : Int) = (↑s.xi : Int) ∧ value = s.value ∧ Z29 (rows = s.rows ∧
 p = p ∧ (↑i : Int) = (↑s.i : Int) ∧ Z16 (rd = s.rd ∧ IntKind.i64.wrap ((↑n : Int) + 1) = (↑s.n : Int) ∧ ((fun (s : US) => baseW p s ∧ (s.i = p.length + 1 ∧ s.W.length = 34) ∧ freeI s) s ∧ s.n + (fun (s : US) => 18 -
 s.xi) s ≤ 200) ∧ (1000000 : Nat) - s.n < 1000000 - n ∧ True))))))))) ∧ ((at0 (wR (0 : Int) (2 : Int) rows) (0 : Int) == 0) = false → (decide (at0 (wR (0 : Int) (2 : Int) rows) (0 : Int) > 1000) = true → (decide ((0 :
 Int) < (↑(takT rows).length : Int)) = true → Stuck "sel: none") ∧ (decide ((0 : Int) < (↑(takT rows).length : Int)) = false → Stuck "sel: none")) ∧ (decide (at0 (wR (0 : Int) (2 : Int) rows) (0 : Int) > 1000) = false →
 (decide ((0 : Int) < (↑rs.length : Int)) = true → ∃ (s : US), Z2 (wR (0 : Int) (2 : Int) rows = wR (1 : Int) (2 : Int) s.rows ∧ IntKind.i64.wrap (steps + 1) = s.steps ∧ Z8 (c = s.c ∧ Z9 (rs = s.rs ∧ Q 32 ∧ ws = s.ws ∧
 filtT ws = filtT s.ws ∧ asked = s.asked ∧ Z27 ((0 : Int) = (↑s.xi : Int) ∧ value = s.value ∧ Q 0 ∧ AVal.int IntKind.i64 (at0 (wR (0 : Int) (2 : Int) rows) (0 : Int)) = AVal.int IntKind.i64 1 ∧ (2 : Int) = s.bk ∧ rows =
 s.rows ∧ takT rows = takT s.rows ∧ Qb true ∧ p = p ∧ (↑i : Int) = (↑s.i : Int) ∧ Z16 (rd = s.rd ∧ IntKind.i64.wrap ((↑n : Int) + 1) = (↑s.n : Int) ∧ ((fun (s : US) => baseW p s ∧ lateP p s ∧ (fun (s : US) => s.xi <
 s.rs.length) s) s ∧ s.n + (fun (s : US) => 43 - s.xi) s ≤ 200) ∧ (1000000 : Nat) - s.n < 1000000 - n ∧ True)))))) ∧ (decide ((0 : Int) < (↑rs.length : Int)) = false → (decide ((0 : Int) < (↑ws.length : Int)) = true → ∃
 (s : US), Z2 (wR (0 : Int) (2 : Int) rows = s.W ∧ IntKind.i64.wrap (steps + 1) = s.steps ∧ Z7 (rs = s.rs ∧ Q 32 ∧ ws = s.ws ∧ filtT ws = filtT s.ws ∧ asked = s.asked ∧ Z22 ((0 : Int) = (↑s.xi : Int) ∧ value = s.value ∧ Q
 0 ∧ AVal.int IntKind.i64 (at0 (wR (0 : Int) (2 : Int) rows) (0 : Int)) = AVal.int IntKind.i64 1 ∧ rows = s.rows ∧ p = p ∧ (↑i : Int) = (↑s.i : Int) ∧ Z16 (rd = s.rd ∧ IntKind.i64.wrap ((↑n : Int) + 1) = (↑s.n : Int) ∧
 ((fun (s : US) => baseW p s ∧ (s.i = p.length + 1 ∧ s.W.length = 34) ∧ writeI s) s ∧ s.n + (fun (s : US) => 29 - s.xi) s ≤ 200) ∧ (1000000 : Nat) - s.n < 1000000 - n ∧ True))))) ∧ (decide ((0 : Int) < (↑ws.length : Int))
 = false → (decide ((0 : Int) ≥ (↑rows.length : Int)) = true → ∃ (s : US), Z2 (wR (0 : Int) (2 : Int) rows = s.W ∧ IntKind.i64.wrap (steps + 1) = s.steps ∧ Z7 (rs = s.rs ∧ Q 32 ∧ ws = s.ws ∧ filtT ws = filtT s.ws ∧ asked
 = s.asked ∧ Z23 (value = s.value ∧ Q 0 ∧ at0 (wR (0 : Int) (2 : Int) rows) (0 : Int) = s.a ∧ p = p ∧ (↑i : Int) = (↑s.i : Int) ∧ Z16 (rd = s.rd ∧ IntKind.i64.wrap ((↑n : Int) + 1) = (↑s.n : Int) ∧ ((fun (s : US) => baseW
 p s ∧ (s.i = p.length + 1 ∧ s.W.length = 34) ∧ leaveI s) s ∧ s.n + (fun (s : US) => 10) s ≤ 200) ∧ (1000000 : Nat) - s.n < 1000000 - n ∧ True))))) ∧ (decide ((0 : Int) ≥ (↑rows.length : Int)) = false → ∃ (s : US), Z2 (wR
 (0 : Int) (2 : Int) rows = s.W ∧ IntKind.i64.wrap (steps + 1) = s.steps ∧ Z7 (rs = s.rs ∧ Q 32 ∧ ws = s.ws ∧ filtT ws = filtT s.ws ∧ asked = s.asked ∧ Z26 ((0 : Int) = (↑s.xi : Int) ∧ value = s.value ∧ Q 0 ∧ AVal.int
 IntKind.i64 (at0 (wR (0 : Int) (2 : Int) rows) (0 : Int)) = AVal.int IntKind.i64 1 ∧ rows = s.rows ∧ p = p ∧ (↑i : Int) = (↑s.i : Int) ∧ Z16 (rd = s.rd ∧ IntKind.i64.wrap ((↑n : Int) + 1) = (↑s.n : Int) ∧ ((fun (s : US)
 => baseW p s ∧ (s.i = p.length + 1 ∧ s.W.length = 34) ∧ freeI s) s ∧ s.n + (fun (s : US) => 18 - s.xi) s ≤ 200) ∧ (1000000 : Nat) - s.n < 1000000 - n ∧ True))))))))))))) ∧ (decide ((↑n : Int) < 200) = false → keysD.pre
 (Rs.mk (32 : Int) rs, ()) ∧ ws.length * 16 ≤ 140737488355328 ∧ ∃ (s : US), Z2 (wR (0 : Int) (2 : Int) rows = s.W ∧ steps = s.steps ∧ AVal.int IntKind.i64 1 = AVal.int IntKind.i64 2 ∧ (0 : Int) = s.a ∧ (0 : Int) = s.a ∧
 AVal.int IntKind.i64 0 = AVal.int IntKind.i64 1 ∧ ws = s.ws ∧ Qc 0 ∧ putI (0 : Nat) s ∧ (1000 : Nat) < 1000000 - n ∧ True))) := by kernel_rfl
theorem al_k11_ok (l p : List Op) (cl : Int) (s : US) (hI : (q11 p).I s) : Paid (cA l p cl 18 (q11 p) s) := by
  obtain ⟨n, i, rd, rs, ws, xi, a, c, bk, value, steps, asked, W, rows⟩ := s
  obtain ⟨⟨⟨⟨hpO, hc, hi, hrd, hrs, hws, hwd, hrr⟩, hnod⟩, ⟨he, hne, hrow, hbk⟩, hx⟩, hn⟩ := hI
  have he : i = p.length + 1 := he
  have hne : ws ≠ [] := hne
  have hne0 : 0 < ws.length := List.length_pos_iff.2 hne
  have hrow : rows = rowsT (ws.map (·.pl)) := hrow
  have hbk : bk = 1 ∨ bk = 2 := hbk
  have hr8 : rows ∈ L8 := by rw [hrow]; exact rowsT_in _
  have hrl := rows_len rows hr8
  have hc : c = 1 ∨ c = 2 := hc
  have hi : i ≤ p.length + 1 := hi
  have hrd : rd.length ≤ i := hrd
  have hrs : rs.length ≤ i := hrs
  have hws : ws.length ≤ i := hws
  have hwd : ∀ w ∈ ws, isData w.pl := hwd
  have hrr : ∀ w ∈ rs, 0 ≤ w.pl ∧ w.pl < 3 := hrr
  have hn : n + (44) ≤ 200 := hn
  have hp8 := hpO.1
  have hn2 : n < 200 := by omega
  have hB : ∀ {n xi : Nat} {a bk value steps asked : Int} {W rows : List Int}, baseI p ⟨n, i, rd, rs, ws, xi, a, c, bk, value, steps, asked, W, rows⟩ := mkBase hpO hc hi hrd hrs hws hwd hrr
  refine ⟨?_⟩
  rw [al_k11]
  refine ⟨?_, ?_⟩
  · intro h1
    replace h1 := of_decide_eq_true h1
    first
    | (exfalso; omega)
    | (refine ⟨rfl, ?_, ?_⟩
       · intro h2
         exact absurd ((show decide ((↑(wR (0 : Int) (2 : Int) rows).length : Int) < (34 : Int)) = false by kernel_rfl).symm.trans h2) (by decide)
       · intro h3
         replace h3 := of_decide_eq_false h3
         first
         | (exfalso; omega)
         | (refine ⟨rfl, rfl, ?_, ?_⟩
            · intro h4
              exact absurd ((show decide ((↑(wR (0 : Int) (2 : Int) rows).length : Int) < (34 : Int)) = false by kernel_rfl).symm.trans h4) (by decide)
            · intro h5
              replace h5 := of_decide_eq_false h5
              first
              | (exfalso; omega)
              | (refine ⟨rfl, (And.intro (show (0 : Int) ≤ (0 : Int) from (by decide)) (show (0 : Int) < ((Mw.mk (wR (0 : Int) (2 : Int) rows)).ws.length : Int) from (show _ < ((34 : Nat) : Int) by decide))), ?_, ?_, ?_, ?_⟩
                 · exact ⟨(by decide), (show _ < ((34 : Nat) : Int) by decide)⟩
                 · exact ⟨(by decide), (show _ < ((34 : Nat) : Int) by decide)⟩
                 · intro h6
                   refine ⟨?_, ?_, ?_, ?_⟩
                   · exact ⟨(by decide), (show _ < ((34 : Nat) : Int) by decide)⟩
                   · exact ⟨(by decide), (show _ < ((34 : Nat) : Int) by decide)⟩
                   · intro h7
                     refine ⟨?_, ?_⟩
                     · intro h8
                       replace h8 := of_decide_eq_true h8
                       first
                       | (exfalso; omega)
                       | (exact ⟨⟨n + 1, i, rd, rs, ws, 0, a, c, (2 : Int), value, IntKind.i64.wrap (steps + (1 : Int)), asked, W, rows⟩, (t2 ⟨rfl, rfl, t8 ⟨rfl, t9 ⟨rfl, rfl, rfl, rfl, rfl, t27 ⟨rfl, rfl, t29 ⟨rfl, rfl, rfl, rfl, rfl, rfl, t16 ⟨rfl, (wN (by omega)), ⟨⟨(mkBW hB hnod), ⟨⟨(show i = p.length + 1 by omega), hne, hrow, (.inr rfl)⟩, (show (0) < (rs).length by first | omega | (simp only [List.length_map] at *; omega))⟩⟩, (show (n + 1) + ((43 : Nat) - (0)) ≤ 200 by omega)⟩, (mA hn2), trivial⟩⟩⟩⟩⟩⟩)⟩)
                     · intro h9
                       replace h9 := of_decide_eq_false h9
                       first
                       | (exfalso; omega)
                       | (refine ⟨?_, ?_⟩
                          · intro h10
                            replace h10 := of_decide_eq_true h10
                            first
                            | (exfalso; omega)
                            | (exact ⟨⟨n + 1, i, rd, rs, ws, 0, a, c, bk, value, IntKind.i64.wrap (steps + (1 : Int)), asked, (wR (0 : Int) (2 : Int) rows).set (0 : Nat) (1 : Int), rows⟩, (t2 ⟨rfl, rfl, t7 ⟨rfl, rfl, rfl, rfl, rfl, t22 ⟨rfl, rfl, t29 ⟨rfl, rfl, rfl, t16 ⟨rfl, (wN (by omega)), ⟨⟨(mkBW hB hnod), ⟨⟨(show i = p.length + 1 by omega), (by first | rfl | exact hW | (simp only [List.length_set]; first | rfl | exact hW))⟩, ⟨(show 0 < (ws).length by omega), (And.intro hrl (rows_mem rows hr8)), (fun j hj => absurd hj (Nat.not_lt_zero j)), keep_of rfl hne⟩⟩⟩, (show (n + 1) + ((29 : Nat) - (0)) ≤ 200 by omega)⟩, (mA hn2), trivial⟩⟩⟩⟩⟩)⟩)
                          · intro h11
                            replace h11 := of_decide_eq_false h11
                            first
                            | (exfalso; omega)
                            | (refine ⟨?_, ?_⟩
                               · intro h12
                                 replace h12 := of_decide_eq_true h12
                                 first
                                 | (exfalso; omega)
                                 | (exact ⟨⟨n + 1, i, rd, rs, ws, xi, (1 : Int), c, bk, value, IntKind.i64.wrap (steps + (1 : Int)), asked, (wR (0 : Int) (2 : Int) rows).set (0 : Nat) (1 : Int), rows⟩, (t2 ⟨rfl, rfl, t7 ⟨rfl, rfl, rfl, rfl, rfl, t23 ⟨rfl, rfl, rfl, rfl, rfl, t16 ⟨rfl, (wN (by omega)), ⟨⟨(mkBW hB hnod), ⟨⟨(show i = p.length + 1 by omega), (by first | rfl | exact hW | (simp only [List.length_set]; first | rfl | exact hW))⟩, (by exfalso; omega)⟩⟩, (show (n + 1) + ((10 : Nat)) ≤ 200 by omega)⟩, (mA hn2), trivial⟩⟩⟩⟩)⟩)
                               · intro h13
                                 replace h13 := of_decide_eq_false h13
                                 first
                                 | (exfalso; omega)
                                 | (exact ⟨⟨n + 1, i, rd, rs, ws, 0, a, c, bk, value, IntKind.i64.wrap (steps + (1 : Int)), asked, (wR (0 : Int) (2 : Int) rows).set (0 : Nat) (1 : Int), rows⟩, (t2 ⟨rfl, rfl, t7 ⟨rfl, rfl, rfl, rfl, rfl, t26 ⟨rfl, rfl, t29 ⟨rfl, rfl, rfl, t16 ⟨rfl, (wN (by omega)), ⟨⟨(mkBW hB hnod), ⟨⟨(show i = p.length + 1 by omega), (by first | rfl | exact hW | (simp only [List.length_set]; first | rfl | exact hW))⟩, (by exfalso; omega)⟩⟩, (show (n + 1) + ((18 : Nat) - (0)) ≤ 200 by omega)⟩, (mA hn2), trivial⟩⟩⟩⟩⟩)⟩)))
                   · intro h14
                     exact absurd ((show (at0 (wR (0 : Int) (2 : Int) rows) (0 : Int) == (0 : Int)) = true by kernel_rfl).symm.trans h14) (by decide)
                 · intro h15
                   exact absurd ((show (at0 (wR (0 : Int) (2 : Int) rows) (0 : Int) == (0 : Int)) = true by kernel_rfl).symm.trans h15) (by decide))))
  · intro h16
    exact absurd (of_decide_eq_false h16) (by omega)
end Go.Proofs.Ytmjjljngaefpaaa

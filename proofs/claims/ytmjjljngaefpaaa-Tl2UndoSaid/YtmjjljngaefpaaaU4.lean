/- Tl2Undo: its families, one step each. -/
import Derived.Test.YtmjjljngaefpaaaUf
namespace Go.Proofs.Ytmjjljngaefpaaa
open Go.RowKit Go.Am Go.Sy
set_option linter.unusedVariables false
set_option linter.unusedSimpArgs false

theorem un_k13 (l p : List Op) (cl w e : Int) (n : Nat) (i : Nat) (rd : List Wo) (rs : List Wo) (ws : List Wo) (xi : Nat) (a : Int) (c : Int) (bk : Int) (value : Int) (steps : Int) (asked : Int) (W : List Int) (rows :
 List Int) : Go.Sy.Tree.holds (cutS F (lookC (lU p)) 3000 Try.f4 b4 (fU l p cl w e) selU 16 (k13 p w e) ⟨n, i, rd, rs, ws, xi, a, c, bk, value, steps, asked, W, rows⟩) = ( (decide ((↑n : Int) < IntKind.i64.wrap
 ((IntKind.u64.wrap w).tmod 60)) = true → sizeD.pre (mp1, ()) ∧ (decide ((↑W.length : Int) < 34) = true → (decide ((↑i : Int) > (↑p.length : Int)) = true → ∃ (s : US), w = w ∧ e = e ∧ Z2 (W = s.W ∧ steps = s.steps ∧ Z7
 (rs = s.rs ∧ Q 32 ∧ ws = s.ws ∧ filtT ws = filtT s.ws ∧ asked = s.asked ∧ Z31 (AVal.int IntKind.i64 (4 : Int) = AVal.int IntKind.i64 (0 : Int) ∧ value = s.value ∧ p = p ∧ (↑i : Int) = (↑s.i : Int) ∧ constA (Value.bool
 false) = AVal.bool false ∧ Qc 1 ∧ rd = s.rd ∧ IntKind.i64.wrap ((↑n : Int) + 1) = (↑s.n : Int) ∧ (sureI p s ∧ (fun (s : US) => True) s) ∧ (1000000 : Nat) - s.n < 1000000 - n ∧ True)))) ∧ (decide ((↑i : Int) > (↑p.length
 : Int)) = false → (decide ((↑i : Int) > 0) = true → ((0 : Int) ≤ IntKind.i64.wrap ((↑i : Int) - 1) ∧ IntKind.i64.wrap ((↑i : Int) - 1) < (↑p.length : Int)) ∧ ((0 : Int) ≤ IntKind.i64.wrap ((↑i : Int) - 1) ∧
 IntKind.i64.wrap ((↑i : Int) - 1) < (↑p.length : Int)) ∧ (((at2 p (IntKind.i64.wrap ((↑i : Int) - 1))).kd == 0) = true → ((0 : Int) ≤ IntKind.i64.wrap ((↑i : Int) - 1) ∧ IntKind.i64.wrap ((↑i : Int) - 1) < (↑p.length :
 Int)) ∧ ((0 : Int) ≤ IntKind.i64.wrap ((↑i : Int) - 1) ∧ IntKind.i64.wrap ((↑i : Int) - 1) < (↑p.length : Int)) ∧ (rd.length + [Wo.mk (at2 p (IntKind.i64.wrap ((↑i : Int) - 1))).pl value].length) * 16 ≤ 140737488355328 ∧
 Stuck "sel: none") ∧ (((at2 p (IntKind.i64.wrap ((↑i : Int) - 1))).kd == 0) = false → Stuck "sel: none")) ∧ (decide ((↑i : Int) > 0) = false → Stuck "sel: none"))) ∧ (decide ((↑W.length : Int) < 34) = false → ws.length *
 16 ≤ 140737488355328 ∧ ((0 : Int) ≤ (↑xi : Int) ∧ (↑xi : Int) < (↑ws.length : Int)) ∧ ((0 : Int) ≤ (↑xi : Int) ∧ (↑xi : Int) < (↑ws.length : Int)) ∧ badD.pre (Mw.mk W, (at3 ws (↑xi : Int)).pl, ()) ∧ ((0 : Int) ≤ (at3 ws
 (↑xi : Int)).pl ∧ (at3 ws (↑xi : Int)).pl < (↑W.length : Int)) ∧ ((0 : Int) ≤ (at3 ws (↑xi : Int)).pl ∧ (at3 ws (↑xi : Int)).pl < (↑W.length : Int)) ∧ ((0 : Int) ≤ (at3 ws (↑xi : Int)).pl ∧ (at3 ws (↑xi : Int)).pl <
 (↑W.length : Int)) ∧ ((0 : Int) ≤ (at3 ws (↑xi : Int)).pl ∧ (at3 ws (↑xi : Int)).pl < (↑W.length : Int)) ∧ (decide (IntKind.i64.wrap ((↑xi : Int) + 1) < (↑ws.length : Int)) = true → ∃ (s : US), w = w ∧ e = e ∧ Z2 (W.set
 (at3 ws (↑xi : Int)).pl.toNat (at3 ws (↑xi : Int)).vl = s.W ∧ IntKind.i64.wrap (steps + 1) = s.steps ∧ Z7 (rs = s.rs ∧ Q 32 ∧ ws = s.ws ∧ filtT ws = filtT s.ws ∧ asked = s.asked ∧ Z32 (IntKind.i64.wrap ((↑xi : Int) + 1)
 = (↑s.xi : Int) ∧ value = s.value ∧ Q 1 ∧ rows = s.rows ∧ p = p ∧ (↑i : Int) = (↑s.i : Int) ∧ Z16 (rd = s.rd ∧ IntKind.i64.wrap ((↑n : Int) + 1) = (↑s.n : Int) ∧ (sureI p s ∧ (fun (s : US) => s.xi < s.ws.length ∧ rowIn
 s) s) ∧ (1000000 : Nat) - s.n < 1000000 - n ∧ True))))) ∧ (decide (IntKind.i64.wrap ((↑xi : Int) + 1) < (↑ws.length : Int)) = false → (decide ((0 : Int) ≥ (↑rows.length : Int)) = true → ∃ (s : US), w = w ∧ e = e ∧ Z2
 (W.set (at3 ws (↑xi : Int)).pl.toNat (at3 ws (↑xi : Int)).vl = s.W ∧ IntKind.i64.wrap (steps + 1) = s.steps ∧ Z7 (rs = s.rs ∧ Q 32 ∧ ws = s.ws ∧ filtT ws = filtT s.ws ∧ asked = s.asked ∧ Z33 (value = s.value ∧ (1 : Int)
 = s.a ∧ p = p ∧ (↑i : Int) = (↑s.i : Int) ∧ Z16 (rd = s.rd ∧ IntKind.i64.wrap ((↑n : Int) + 1) = (↑s.n : Int) ∧ (sureI p s ∧ (fun (s : US) => True) s) ∧ (1000000 : Nat) - s.n < 1000000 - n ∧ True))))) ∧ (decide ((0 :
 Int) ≥ (↑rows.length : Int)) = false → ∃ (s : US), w = w ∧ e = e ∧ Z2 (W.set (at3 ws (↑xi : Int)).pl.toNat (at3 ws (↑xi : Int)).vl = s.W ∧ IntKind.i64.wrap (steps + 1) = s.steps ∧ Z7 (rs = s.rs ∧ Q 32 ∧ ws = s.ws ∧ filtT
 ws = filtT s.ws ∧ asked = s.asked ∧ Z34 ((0 : Int) = (↑s.xi : Int) ∧ value = s.value ∧ Q 1 ∧ rows = s.rows ∧ p = p ∧ (↑i : Int) = (↑s.i : Int) ∧ Z16 (rd = s.rd ∧ IntKind.i64.wrap ((↑n : Int) + 1) = (↑s.n : Int) ∧ (sureI
 p s ∧ (fun (s : US) => s.xi < s.rows.length ∧ rowIn s) s) ∧ (1000000 : Nat) - s.n < 1000000 - n ∧ True)))))))) ∧ (decide ((↑n : Int) < IntKind.i64.wrap ((IntKind.u64.wrap w).tmod 60)) = false → true = true ∧ True)) := by
 kernel_rfl
theorem un_k13_ok (l p : List Op) (cl w e : Int) (s : US) (hI : (k13 p w e).I s) : Paid (cutS F (lookC (lU p)) 3000 Try.f4 b4 (fU l p cl w e) selU 16 (k13 p w e) s) := by
  obtain ⟨n, i, rd, rs, ws, xi, a, c, bk, value, steps, asked, W, rows⟩ := s
  obtain ⟨⟨⟨hpO, hc, hi, hrd, hrs, hws, hwd, hrr⟩, he, hn, hW⟩, hx⟩ := hI
  have hW : W.length = 34 := hW
  obtain ⟨hx, hrin⟩ := hx
  have hrl : rows.length ≤ 3 := hrin.1
  have hx : xi < ws.length := hx
  have hv : isData (at3 ws (xi : Int)).pl := by rw [at3_get hx]; exact hwd _ (List.getElem_mem _)
  have hc : c = 1 ∨ c = 2 := hc
  have hi : i ≤ p.length + 1 := hi
  have hrd : rd.length ≤ i := hrd
  have hrs : rs.length ≤ i := hrs
  have hws : ws.length ≤ i := hws
  have hwd : ∀ w ∈ ws, isData w.pl := hwd
  have hrr : ∀ w ∈ rs, 0 ≤ w.pl ∧ w.pl < 3 := hrr
  have hn : n ≤ 60 := hn
  have hB : ∀ {n xi : Nat} {a bk value steps asked : Int} {W rows : List Int}, baseI p ⟨n, i, rd, rs, ws, xi, a, c, bk, value, steps, asked, W, rows⟩ := mkBase hpO hc hi hrd hrs hws hwd hrr
  have hp8 := hpO.1
  have hw60 := when_lt w
  have he : i = p.length + 1 := he
  refine ⟨?_⟩
  rw [un_k13]
  refine ⟨?_, ?_⟩
  · intro h1
    replace h1 := of_decide_eq_true h1
    first
    | (exfalso; omega)
    | (refine ⟨rfl, ?_, ?_⟩
       · intro h2
         replace h2 := of_decide_eq_true h2
         first
         | (exfalso; omega)
         | (refine ⟨?_, ?_⟩
            · intro h3
              replace h3 := of_decide_eq_true h3
              first
              | (exfalso; omega)
              | (exact ⟨⟨n + 1, i, rd, rs, ws, xi, a, c, bk, value, steps, asked, W, rows⟩, ⟨rfl, rfl, t2 ⟨rfl, rfl, t7 ⟨rfl, rfl, rfl, rfl, rfl, t31 ⟨(by exfalso; omega), rfl, rfl, rfl, rfl, rfl, rfl, (wN (by omega)), ⟨(mkSure hB (by omega) (by omega) (by first | rfl | exact hW | (simp only [List.length_set]; first | rfl | exact hW))), trivial⟩, (mN hn), trivial⟩⟩⟩⟩⟩)
            · intro h4
              replace h4 := of_decide_eq_false h4
              first
              | (exfalso; omega)
              | (refine ⟨?_, ?_⟩
                 · intro h5
                   replace h5 := of_decide_eq_true h5
                   first
                   | (exfalso; omega)
                   | (refine ⟨?_, ?_, ?_, ?_⟩
                      · exact ⟨(by rw [wM (by omega)]; omega), (by rw [wM (by omega)]; omega)⟩
                      · exact ⟨(by rw [wM (by omega)]; omega), (by rw [wM (by omega)]; omega)⟩
                      · intro h6
                        refine ⟨?_, ?_, (by simp only [List.length_cons, List.length_nil, tak_len] at *; first | omega | (have := rows_take rows hr8 xi (by omega); have := rows_len _ this; omega)), ?_⟩
                        · exact ⟨(by rw [wM (by omega)]; omega), (by rw [wM (by omega)]; omega)⟩
                        · exact ⟨(by rw [wM (by omega)]; omega), (by rw [wM (by omega)]; omega)⟩
                        · exfalso; omega
                      · intro h7
                        exfalso; omega)
                 · intro h8
                   replace h8 := of_decide_eq_false h8
                   first
                   | (exfalso; omega)
                   | (exfalso; omega)))
       · intro h9
         replace h9 := of_decide_eq_false h9
         first
         | (exfalso; omega)
         | (refine ⟨(show ws.length * (16 : Nat) ≤ (140737488355328 : Nat) by omega), ?_, ?_, (And.intro (show (0 : Int) ≤ (at3 ws (↑xi : Int)).pl from (data_lt hv).1) (show (at3 ws (↑xi : Int)).pl < ((Mw.mk W).ws.length : Int) from (by rw [hW]; exact (data_lt hv).2))), ?_, ?_, ?_, ?_, ?_, ?_⟩
            · exact ⟨(by omega), (by first | omega | (simp only [tak_len] at *; omega))⟩
            · exact ⟨(by omega), (by first | omega | (simp only [tak_len] at *; omega))⟩
            · exact ⟨(data_lt hv).1, (by rw [hW]; exact (data_lt hv).2)⟩
            · exact ⟨(data_lt hv).1, (by rw [hW]; exact (data_lt hv).2)⟩
            · exact ⟨(data_lt hv).1, (by rw [hW]; exact (data_lt hv).2)⟩
            · exact ⟨(data_lt hv).1, (by rw [hW]; exact (data_lt hv).2)⟩
            · intro h10
              replace h10 := of_decide_eq_true h10
              rw [wN (show xi < 100000000 by omega)] at h10
              first
              | (exfalso; omega)
              | (exact ⟨⟨n + 1, i, rd, rs, ws, xi + 1, a, c, bk, value, IntKind.i64.wrap (steps + (1 : Int)), asked, W.set (at3 ws (↑xi : Int)).pl.toNat (at3 ws (↑xi : Int)).vl, rows⟩, ⟨rfl, rfl, t2 ⟨rfl, rfl, t7 ⟨rfl, rfl, rfl, rfl, rfl, t32 ⟨(wN (by omega)), rfl, rfl, rfl, rfl, rfl, t16 ⟨rfl, (wN (by omega)), ⟨(mkSure hB (by omega) (by omega) (by first | rfl | exact hW | (simp only [List.length_set]; first | rfl | exact hW))), (And.intro (show (xi + 1) < (ws).length by first | omega | (simp only [List.length_map] at *; omega)) hrin)⟩, (mN hn), trivial⟩⟩⟩⟩⟩⟩)
            · intro h11
              replace h11 := of_decide_eq_false h11
              rw [wN (show xi < 100000000 by omega)] at h11
              first
              | (exfalso; omega)
              | (refine ⟨?_, ?_⟩
                 · intro h12
                   replace h12 := of_decide_eq_true h12
                   first
                   | (exfalso; omega)
                   | (exact ⟨⟨n + 1, i, rd, rs, ws, xi, (1 : Int), c, bk, value, IntKind.i64.wrap (steps + (1 : Int)), asked, W.set (at3 ws (↑xi : Int)).pl.toNat (at3 ws (↑xi : Int)).vl, rows⟩, ⟨rfl, rfl, t2 ⟨rfl, rfl, t7 ⟨rfl, rfl, rfl, rfl, rfl, t33 ⟨rfl, rfl, rfl, rfl, t16 ⟨rfl, (wN (by omega)), ⟨(mkSure hB (by omega) (by omega) (by first | rfl | exact hW | (simp only [List.length_set]; first | rfl | exact hW))), trivial⟩, (mN hn), trivial⟩⟩⟩⟩⟩⟩)
                 · intro h13
                   replace h13 := of_decide_eq_false h13
                   first
                   | (exfalso; omega)
                   | (exact ⟨⟨n + 1, i, rd, rs, ws, 0, a, c, bk, value, IntKind.i64.wrap (steps + (1 : Int)), asked, W.set (at3 ws (↑xi : Int)).pl.toNat (at3 ws (↑xi : Int)).vl, rows⟩, ⟨rfl, rfl, t2 ⟨rfl, rfl, t7 ⟨rfl, rfl, rfl, rfl, rfl, t34 ⟨rfl, rfl, rfl, rfl, rfl, rfl, t16 ⟨rfl, (wN (by omega)), ⟨(mkSure hB (by omega) (by omega) (by first | rfl | exact hW | (simp only [List.length_set]; first | rfl | exact hW))), (And.intro (show (0) < (rows).length by first | omega | (simp only [List.length_map] at *; omega)) hrin)⟩, (mN hn), trivial⟩⟩⟩⟩⟩⟩))))
  · intro h14
    replace h14 := of_decide_eq_false h14
    first
    | (exfalso; omega)
    | (exact ⟨rfl, trivial⟩)
theorem un_k14 (l p : List Op) (cl w e : Int) (n : Nat) (i : Nat) (rd : List Wo) (rs : List Wo) (ws : List Wo) (xi : Nat) (a : Int) (c : Int) (bk : Int) (value : Int) (steps : Int) (asked : Int) (W : List Int) (rows :
 List Int) : Go.Sy.Tree.holds (cutS F (lookC (lU p)) 3000 Try.f4 b4 (fU l p cl w e) selU 16 (k14 p w e) ⟨n, i, rd, rs, ws, xi, a, c, bk, value, steps, asked, W, rows⟩) = ( (decide ((↑n : Int) < IntKind.i64.wrap
 ((IntKind.u64.wrap w).tmod 60)) = true → sizeD.pre (mp1, ()) ∧ (decide ((↑W.length : Int) < 34) = true → (decide ((↑i : Int) > (↑p.length : Int)) = true → ∃ (s : US), w = w ∧ e = e ∧ Z2 (W = s.W ∧ steps = s.steps ∧ Z7
 (rs = s.rs ∧ Q 32 ∧ ws = s.ws ∧ filtT ws = filtT s.ws ∧ asked = s.asked ∧ Z31 (AVal.int IntKind.i64 (4 : Int) = AVal.int IntKind.i64 (0 : Int) ∧ value = s.value ∧ p = p ∧ (↑i : Int) = (↑s.i : Int) ∧ constA (Value.bool
 false) = AVal.bool false ∧ Qc 1 ∧ rd = s.rd ∧ IntKind.i64.wrap ((↑n : Int) + 1) = (↑s.n : Int) ∧ (sureI p s ∧ (fun (s : US) => True) s) ∧ (1000000 : Nat) - s.n < 1000000 - n ∧ True)))) ∧ (decide ((↑i : Int) > (↑p.length
 : Int)) = false → (decide ((↑i : Int) > 0) = true → ((0 : Int) ≤ IntKind.i64.wrap ((↑i : Int) - 1) ∧ IntKind.i64.wrap ((↑i : Int) - 1) < (↑p.length : Int)) ∧ ((0 : Int) ≤ IntKind.i64.wrap ((↑i : Int) - 1) ∧
 IntKind.i64.wrap ((↑i : Int) - 1) < (↑p.length : Int)) ∧ (((at2 p (IntKind.i64.wrap ((↑i : Int) - 1))).kd == 0) = true → ((0 : Int) ≤ IntKind.i64.wrap ((↑i : Int) - 1) ∧ IntKind.i64.wrap ((↑i : Int) - 1) < (↑p.length :
 Int)) ∧ ((0 : Int) ≤ IntKind.i64.wrap ((↑i : Int) - 1) ∧ IntKind.i64.wrap ((↑i : Int) - 1) < (↑p.length : Int)) ∧ (rd.length + [Wo.mk (at2 p (IntKind.i64.wrap ((↑i : Int) - 1))).pl value].length) * 16 ≤ 140737488355328 ∧
 Stuck "sel: none") ∧ (((at2 p (IntKind.i64.wrap ((↑i : Int) - 1))).kd == 0) = false → Stuck "sel: none")) ∧ (decide ((↑i : Int) > 0) = false → Stuck "sel: none"))) ∧ (decide ((↑W.length : Int) < 34) = false → ((0 : Int)
 ≤ (↑xi : Int) ∧ (↑xi : Int) < (↑rows.length : Int)) ∧ ((0 : Int) ≤ (↑xi : Int) ∧ (↑xi : Int) < (↑rows.length : Int)) ∧ stripeD.pre (mp1, at0 rows (↑xi : Int), ()) ∧ freeD.pre ((1 : Int), ()) ∧ badD.pre (Mw.mk W, (2 :
 Int) + at0 rows (↑xi : Int), ()) ∧ ((0 : Int) ≤ 2 + at0 rows (↑xi : Int) ∧ (2 : Int) + at0 rows (↑xi : Int) < (↑W.length : Int)) ∧ ((0 : Int) ≤ 2 + at0 rows (↑xi : Int) ∧ (2 : Int) + at0 rows (↑xi : Int) < (↑W.length :
 Int)) ∧ ((0 : Int) ≤ 2 + at0 rows (↑xi : Int) ∧ (2 : Int) + at0 rows (↑xi : Int) < (↑W.length : Int)) ∧ ((0 : Int) ≤ 2 + at0 rows (↑xi : Int) ∧ (2 : Int) + at0 rows (↑xi : Int) < (↑W.length : Int)) ∧ (decide
 (IntKind.i64.wrap ((↑xi : Int) + 1) ≥ (↑rows.length : Int)) = true → ∃ (s : US), w = w ∧ e = e ∧ Z2 (W.set ((2 : Int) + at0 rows (↑xi : Int)).toNat (16 : Int) = s.W ∧ IntKind.i64.wrap (steps + 1) = s.steps ∧ Z7 (rs =
 s.rs ∧ Q 32 ∧ ws = s.ws ∧ filtT ws = filtT s.ws ∧ asked = s.asked ∧ Z33 (value = s.value ∧ (1 : Int) = s.a ∧ p = p ∧ (↑i : Int) = (↑s.i : Int) ∧ Z16 (rd = s.rd ∧ IntKind.i64.wrap ((↑n : Int) + 1) = (↑s.n : Int) ∧ (sureI
 p s ∧ (fun (s : US) => True) s) ∧ (1000000 : Nat) - s.n < 1000000 - n ∧ True))))) ∧ (decide (IntKind.i64.wrap ((↑xi : Int) + 1) ≥ (↑rows.length : Int)) = false → ∃ (s : US), w = w ∧ e = e ∧ Z2 (W.set ((2 : Int) + at0
 rows (↑xi : Int)).toNat (16 : Int) = s.W ∧ IntKind.i64.wrap (steps + 1) = s.steps ∧ Z7 (rs = s.rs ∧ Q 32 ∧ ws = s.ws ∧ filtT ws = filtT s.ws ∧ asked = s.asked ∧ Z35 (IntKind.i64.wrap ((↑xi : Int) + 1) = (↑s.xi : Int) ∧
 value = s.value ∧ Q 1 ∧ rows = s.rows ∧ p = p ∧ (↑i : Int) = (↑s.i : Int) ∧ Z16 (rd = s.rd ∧ IntKind.i64.wrap ((↑n : Int) + 1) = (↑s.n : Int) ∧ (sureI p s ∧ (fun (s : US) => s.xi < s.rows.length ∧ rowIn s) s) ∧ (1000000
 : Nat) - s.n < 1000000 - n ∧ True))))))) ∧ (decide ((↑n : Int) < IntKind.i64.wrap ((IntKind.u64.wrap w).tmod 60)) = false → true = true ∧ True)) := by kernel_rfl
theorem un_k14_ok (l p : List Op) (cl w e : Int) (s : US) (hI : (k14 p w e).I s) : Paid (cutS F (lookC (lU p)) 3000 Try.f4 b4 (fU l p cl w e) selU 16 (k14 p w e) s) := by
  obtain ⟨n, i, rd, rs, ws, xi, a, c, bk, value, steps, asked, W, rows⟩ := s
  obtain ⟨⟨⟨hpO, hc, hi, hrd, hrs, hws, hwd, hrr⟩, he, hn, hW⟩, hx⟩ := hI
  have hW : W.length = 34 := hW
  obtain ⟨hx, hrin⟩ := hx
  have hrl : rows.length ≤ 3 := hrin.1
  have hx : xi < rows.length := hx
  have hr : 0 ≤ at0 rows (xi : Int) ∧ at0 rows (xi : Int) < 3 := by rw [at0_get hx]; exact hrin.2 _ (List.getElem_mem _)
  have hc : c = 1 ∨ c = 2 := hc
  have hi : i ≤ p.length + 1 := hi
  have hrd : rd.length ≤ i := hrd
  have hrs : rs.length ≤ i := hrs
  have hws : ws.length ≤ i := hws
  have hwd : ∀ w ∈ ws, isData w.pl := hwd
  have hrr : ∀ w ∈ rs, 0 ≤ w.pl ∧ w.pl < 3 := hrr
  have hn : n ≤ 60 := hn
  have hB : ∀ {n xi : Nat} {a bk value steps asked : Int} {W rows : List Int}, baseI p ⟨n, i, rd, rs, ws, xi, a, c, bk, value, steps, asked, W, rows⟩ := mkBase hpO hc hi hrd hrs hws hwd hrr
  have hp8 := hpO.1
  have hw60 := when_lt w
  have he : i = p.length + 1 := he
  refine ⟨?_⟩
  rw [un_k14]
  refine ⟨?_, ?_⟩
  · intro h1
    replace h1 := of_decide_eq_true h1
    first
    | (exfalso; omega)
    | (refine ⟨rfl, ?_, ?_⟩
       · intro h2
         replace h2 := of_decide_eq_true h2
         first
         | (exfalso; omega)
         | (refine ⟨?_, ?_⟩
            · intro h3
              replace h3 := of_decide_eq_true h3
              first
              | (exfalso; omega)
              | (exact ⟨⟨n + 1, i, rd, rs, ws, xi, a, c, bk, value, steps, asked, W, rows⟩, ⟨rfl, rfl, t2 ⟨rfl, rfl, t7 ⟨rfl, rfl, rfl, rfl, rfl, t31 ⟨(by exfalso; omega), rfl, rfl, rfl, rfl, rfl, rfl, (wN (by omega)), ⟨(mkSure hB (by omega) (by omega) (by first | rfl | exact hW | (simp only [List.length_set]; first | rfl | exact hW))), trivial⟩, (mN hn), trivial⟩⟩⟩⟩⟩)
            · intro h4
              replace h4 := of_decide_eq_false h4
              first
              | (exfalso; omega)
              | (refine ⟨?_, ?_⟩
                 · intro h5
                   replace h5 := of_decide_eq_true h5
                   first
                   | (exfalso; omega)
                   | (refine ⟨?_, ?_, ?_, ?_⟩
                      · exact ⟨(by rw [wM (by omega)]; omega), (by rw [wM (by omega)]; omega)⟩
                      · exact ⟨(by rw [wM (by omega)]; omega), (by rw [wM (by omega)]; omega)⟩
                      · intro h6
                        refine ⟨?_, ?_, (by simp only [List.length_cons, List.length_nil, tak_len] at *; first | omega | (have := rows_take rows hr8 xi (by omega); have := rows_len _ this; omega)), ?_⟩
                        · exact ⟨(by rw [wM (by omega)]; omega), (by rw [wM (by omega)]; omega)⟩
                        · exact ⟨(by rw [wM (by omega)]; omega), (by rw [wM (by omega)]; omega)⟩
                        · exfalso; omega
                      · intro h7
                        exfalso; omega)
                 · intro h8
                   replace h8 := of_decide_eq_false h8
                   first
                   | (exfalso; omega)
                   | (exfalso; omega)))
       · intro h9
         replace h9 := of_decide_eq_false h9
         first
         | (exfalso; omega)
         | (refine ⟨?_, ?_, (And.intro rfl (And.intro (show (0 : Int) ≤ at0 rows (↑xi : Int) from hr.1) (show at0 rows (↑xi : Int) < (3 : Int) from hr.2))), rfl, (And.intro (show (0 : Int) ≤ (2 : Int) + at0 rows (↑xi : Int) from (by have := hr.1; omega)) (show (2 : Int) + at0 rows (↑xi : Int) < ((Mw.mk W).ws.length : Int) from (by rw [hW]; have := hr.2; omega))), ?_, ?_, ?_, ?_, ?_, ?_⟩
            · exact ⟨(by omega), (by first | omega | (simp only [tak_len] at *; omega))⟩
            · exact ⟨(by omega), (by first | omega | (simp only [tak_len] at *; omega))⟩
            · exact ⟨(by have := hr.1; omega), (by rw [hW]; have := hr.2; omega)⟩
            · exact ⟨(by have := hr.1; omega), (by rw [hW]; have := hr.2; omega)⟩
            · exact ⟨(by have := hr.1; omega), (by rw [hW]; have := hr.2; omega)⟩
            · exact ⟨(by have := hr.1; omega), (by rw [hW]; have := hr.2; omega)⟩
            · intro h10
              replace h10 := of_decide_eq_true h10
              rw [wN (show xi < 100000000 by omega)] at h10
              first
              | (exfalso; omega)
              | (exact ⟨⟨n + 1, i, rd, rs, ws, xi, (1 : Int), c, bk, value, IntKind.i64.wrap (steps + (1 : Int)), asked, W.set ((2 : Int) + at0 rows (↑xi : Int)).toNat (16 : Int), rows⟩, ⟨rfl, rfl, t2 ⟨rfl, rfl, t7 ⟨rfl, rfl, rfl, rfl, rfl, t33 ⟨rfl, rfl, rfl, rfl, t16 ⟨rfl, (wN (by omega)), ⟨(mkSure hB (by omega) (by omega) (by first | rfl | exact hW | (simp only [List.length_set]; first | rfl | exact hW))), trivial⟩, (mN hn), trivial⟩⟩⟩⟩⟩⟩)
            · intro h11
              replace h11 := of_decide_eq_false h11
              rw [wN (show xi < 100000000 by omega)] at h11
              first
              | (exfalso; omega)
              | (exact ⟨⟨n + 1, i, rd, rs, ws, xi + 1, a, c, bk, value, IntKind.i64.wrap (steps + (1 : Int)), asked, W.set ((2 : Int) + at0 rows (↑xi : Int)).toNat (16 : Int), rows⟩, ⟨rfl, rfl, t2 ⟨rfl, rfl, t7 ⟨rfl, rfl, rfl, rfl, rfl, t35 ⟨(wN (by omega)), rfl, rfl, rfl, rfl, rfl, t16 ⟨rfl, (wN (by omega)), ⟨(mkSure hB (by omega) (by omega) (by first | rfl | exact hW | (simp only [List.length_set]; first | rfl | exact hW))), (And.intro (show (xi + 1) < (rows).length by first | omega | (simp only [List.length_map] at *; omega)) hrin)⟩, (mN hn), trivial⟩⟩⟩⟩⟩⟩)))
  · intro h12
    replace h12 := of_decide_eq_false h12
    first
    | (exfalso; omega)
    | (exact ⟨rfl, trivial⟩)
theorem un_k15 (l p : List Op) (cl w e : Int) (n : Nat) (i : Nat) (rd : List Wo) (rs : List Wo) (ws : List Wo) (xi : Nat) (a : Int) (c : Int) (bk : Int) (value : Int) (steps : Int) (asked : Int) (W : List Int) (rows :
 List Int) : Go.Sy.Tree.holds (cutS F (lookC (lU p)) 3000 Try.f4 b4 (fU l p cl w e) selU 16 (k15 p w e) ⟨n, i, rd, rs, ws, xi, a, c, bk, value, steps, asked, W, rows⟩) = ( (decide ((↑n : Int) < IntKind.i64.wrap
 ((IntKind.u64.wrap w).tmod 60)) = true → sizeD.pre (mp1, ()) ∧ (decide ((↑W.length : Int) < 34) = true → (decide ((↑i : Int) > (↑p.length : Int)) = true → ∃ (s : US), w = w ∧ e = e ∧ Z2 (W = s.W ∧ steps = s.steps ∧ Z7
 (rs = s.rs ∧ Q 32 ∧ ws = s.ws ∧ filtT ws = filtT s.ws ∧ asked = s.asked ∧ Z31 (AVal.int IntKind.i64 (4 : Int) = AVal.int IntKind.i64 (0 : Int) ∧ value = s.value ∧ p = p ∧ (↑i : Int) = (↑s.i : Int) ∧ constA (Value.bool
 false) = AVal.bool false ∧ Qc 1 ∧ rd = s.rd ∧ IntKind.i64.wrap ((↑n : Int) + 1) = (↑s.n : Int) ∧ (sureI p s ∧ (fun (s : US) => True) s) ∧ (1000000 : Nat) - s.n < 1000000 - n ∧ True)))) ∧ (decide ((↑i : Int) > (↑p.length
 : Int)) = false → (decide ((↑i : Int) > 0) = true → ((0 : Int) ≤ IntKind.i64.wrap ((↑i : Int) - 1) ∧ IntKind.i64.wrap ((↑i : Int) - 1) < (↑p.length : Int)) ∧ ((0 : Int) ≤ IntKind.i64.wrap ((↑i : Int) - 1) ∧
 IntKind.i64.wrap ((↑i : Int) - 1) < (↑p.length : Int)) ∧ (((at2 p (IntKind.i64.wrap ((↑i : Int) - 1))).kd == 0) = true → ((0 : Int) ≤ IntKind.i64.wrap ((↑i : Int) - 1) ∧ IntKind.i64.wrap ((↑i : Int) - 1) < (↑p.length :
 Int)) ∧ ((0 : Int) ≤ IntKind.i64.wrap ((↑i : Int) - 1) ∧ IntKind.i64.wrap ((↑i : Int) - 1) < (↑p.length : Int)) ∧ (rd.length + [Wo.mk (at2 p (IntKind.i64.wrap ((↑i : Int) - 1))).pl value].length) * 16 ≤ 140737488355328 ∧
 Stuck "sel: none") ∧ (((at2 p (IntKind.i64.wrap ((↑i : Int) - 1))).kd == 0) = false → Stuck "sel: none")) ∧ (decide ((↑i : Int) > 0) = false → Stuck "sel: none"))) ∧ (decide ((↑W.length : Int) < 34) = false → threadD.pre
 (mp1, (1 : Int), (0 : Int), ()) ∧ badD.pre (Mw.mk W, (13 : Int), ()) ∧ ((0 : Int) ≤ 13 ∧ (13 : Int) < (↑W.length : Int)) ∧ ((0 : Int) ≤ 13 ∧ (13 : Int) < (↑W.length : Int)) ∧ ((0 : Int) ≤ 13 ∧ (13 : Int) < (↑W.length :
 Int)) ∧ ((0 : Int) ≤ 13 ∧ (13 : Int) < (↑W.length : Int)) ∧ (decide ((↑ws.length : Int) > 0) = true → (decide ((↑i : Int) > (↑p.length : Int)) = true → ∃ (s : US), w = w ∧ e = e ∧ Z2 (W.set (13 : Nat) (0 : Int) = s.W ∧
 IntKind.i64.wrap (steps + 1) = s.steps ∧ Z7 (rs = s.rs ∧ Q 32 ∧ ws = s.ws ∧ filtT ws = filtT s.ws ∧ asked = s.asked ∧ Z36 (value = s.value ∧ p = p ∧ (↑i : Int) = (↑s.i : Int) ∧ constA (Value.bool false) = AVal.bool false
 ∧ Qc 1 ∧ rd = s.rd ∧ IntKind.i64.wrap ((↑n : Int) + 1) = (↑s.n : Int) ∧ (sureI p s ∧ (fun (s : US) => True) s) ∧ (1000000 : Nat) - s.n < 1000000 - n ∧ True)))) ∧ (decide ((↑i : Int) > (↑p.length : Int)) = false → (decide
 ((↑i : Int) > 0) = true → ((0 : Int) ≤ IntKind.i64.wrap ((↑i : Int) - 1) ∧ IntKind.i64.wrap ((↑i : Int) - 1) < (↑p.length : Int)) ∧ ((0 : Int) ≤ IntKind.i64.wrap ((↑i : Int) - 1) ∧ IntKind.i64.wrap ((↑i : Int) - 1) <
 (↑p.length : Int)) ∧ (((at2 p (IntKind.i64.wrap ((↑i : Int) - 1))).kd == 0) = true → ((0 : Int) ≤ IntKind.i64.wrap ((↑i : Int) - 1) ∧ IntKind.i64.wrap ((↑i : Int) - 1) < (↑p.length : Int)) ∧ ((0 : Int) ≤ IntKind.i64.wrap
 ((↑i : Int) - 1) ∧ IntKind.i64.wrap ((↑i : Int) - 1) < (↑p.length : Int)) ∧ (rd.length + [Wo.mk (at2 p (IntKind.i64.wrap ((↑i : Int) - 1))).pl value].length) * 16 ≤ 140737488355328 ∧ Stuck "sel: none") ∧ (((at2 p
 (IntKind.i64.wrap ((↑i : Int) - 1))).kd == 0) = false → Stuck "sel: none")) ∧ (decide ((↑i : Int) > 0) = false → Stuck "sel: none"))) ∧ (decide ((↑ws.length : Int) > 0) = false → (decide ((↑i : Int) > (↑p.length : Int))
 = true → ∃ (s : US), w = w ∧ e = e ∧ Z2 (W.set (13 : Nat) (0 : Int) = s.W ∧ IntKind.i64.wrap (steps + 1) = s.steps ∧ Z7 (rs = s.rs ∧ Q 32 ∧ ws = s.ws ∧ filtT ws = filtT s.ws ∧ asked = s.asked ∧ Z36 (value = s.value ∧ p =
 p ∧ (↑i : Int) = (↑s.i : Int) ∧ constA (Value.bool false) = AVal.bool false ∧ Qc 1 ∧ rd = s.rd ∧ IntKind.i64.wrap ((↑n : Int) + 1) = (↑s.n : Int) ∧ (sureI p s ∧ (fun (s : US) => True) s) ∧ (1000000 : Nat) - s.n < 1000000
 - n ∧ True)))) ∧ (decide ((↑i : Int) > (↑p.length : Int)) = false → (decide ((↑i : Int) > 0) = true → ((0 : Int) ≤ IntKind.i64.wrap ((↑i : Int) - 1) ∧ IntKind.i64.wrap ((↑i : Int) - 1) < (↑p.length : Int)) ∧ ((0 : Int) ≤
 IntKind.i64.wrap ((↑i : Int) - 1) ∧ IntKind.i64.wrap ((↑i : Int) - 1) < (↑p.length : Int)) ∧ (((at2 p (IntKind.i64.wrap ((↑i : Int) - 1))).kd == 0) = true → ((0 : Int) ≤ IntKind.i64.wrap ((↑i : Int) - 1) ∧
 IntKind.i64.wrap ((↑i : Int) - 1) < (↑p.length : Int)) ∧ ((0 : Int) ≤ IntKind.i64.wrap ((↑i : Int) - 1) ∧ IntKind.i64.wrap ((↑i : Int) - 1) < (↑p.length : Int)) ∧ (rd.length + [Wo.mk (at2 p (IntKind.i64.wrap ((↑i : Int)
 - 1))).pl value].length) * 16 ≤ 140737488355328 ∧ Stuck "sel: none") ∧ (((at2 p (IntKind.i64.wrap ((↑i : Int) - 1))).kd == 0) = false → Stuck "sel: none")) ∧ (decide ((↑i : Int) > 0) = false → Stuck "sel: none"))))) ∧
 (decide ((↑n : Int) < IntKind.i64.wrap ((IntKind.u64.wrap w).tmod 60)) = false → true = true ∧ True)) := by kernel_rfl
theorem un_k15_ok (l p : List Op) (cl w e : Int) (s : US) (hI : (k15 p w e).I s) : Paid (cutS F (lookC (lU p)) 3000 Try.f4 b4 (fU l p cl w e) selU 16 (k15 p w e) s) := by
  obtain ⟨n, i, rd, rs, ws, xi, a, c, bk, value, steps, asked, W, rows⟩ := s
  obtain ⟨⟨⟨hpO, hc, hi, hrd, hrs, hws, hwd, hrr⟩, he, hn, hW⟩, hx⟩ := hI
  have hW : W.length = 34 := hW
  have hc : c = 1 ∨ c = 2 := hc
  have hi : i ≤ p.length + 1 := hi
  have hrd : rd.length ≤ i := hrd
  have hrs : rs.length ≤ i := hrs
  have hws : ws.length ≤ i := hws
  have hwd : ∀ w ∈ ws, isData w.pl := hwd
  have hrr : ∀ w ∈ rs, 0 ≤ w.pl ∧ w.pl < 3 := hrr
  have hn : n ≤ 60 := hn
  have hB : ∀ {n xi : Nat} {a bk value steps asked : Int} {W rows : List Int}, baseI p ⟨n, i, rd, rs, ws, xi, a, c, bk, value, steps, asked, W, rows⟩ := mkBase hpO hc hi hrd hrs hws hwd hrr
  have hp8 := hpO.1
  have hw60 := when_lt w
  have he : i = p.length + 1 := he
  refine ⟨?_⟩
  rw [un_k15]
  refine ⟨?_, ?_⟩
  · intro h1
    replace h1 := of_decide_eq_true h1
    first
    | (exfalso; omega)
    | (refine ⟨rfl, ?_, ?_⟩
       · intro h2
         replace h2 := of_decide_eq_true h2
         first
         | (exfalso; omega)
         | (refine ⟨?_, ?_⟩
            · intro h3
              replace h3 := of_decide_eq_true h3
              first
              | (exfalso; omega)
              | (exact ⟨⟨n + 1, i, rd, rs, ws, xi, a, c, bk, value, steps, asked, W, rows⟩, ⟨rfl, rfl, t2 ⟨rfl, rfl, t7 ⟨rfl, rfl, rfl, rfl, rfl, t31 ⟨(by exfalso; omega), rfl, rfl, rfl, rfl, rfl, rfl, (wN (by omega)), ⟨(mkSure hB (by omega) (by omega) (by first | rfl | exact hW | (simp only [List.length_set]; first | rfl | exact hW))), trivial⟩, (mN hn), trivial⟩⟩⟩⟩⟩)
            · intro h4
              replace h4 := of_decide_eq_false h4
              first
              | (exfalso; omega)
              | (refine ⟨?_, ?_⟩
                 · intro h5
                   replace h5 := of_decide_eq_true h5
                   first
                   | (exfalso; omega)
                   | (refine ⟨?_, ?_, ?_, ?_⟩
                      · exact ⟨(by rw [wM (by omega)]; omega), (by rw [wM (by omega)]; omega)⟩
                      · exact ⟨(by rw [wM (by omega)]; omega), (by rw [wM (by omega)]; omega)⟩
                      · intro h6
                        refine ⟨?_, ?_, (by simp only [List.length_cons, List.length_nil, tak_len] at *; first | omega | (have := rows_take rows hr8 xi (by omega); have := rows_len _ this; omega)), ?_⟩
                        · exact ⟨(by rw [wM (by omega)]; omega), (by rw [wM (by omega)]; omega)⟩
                        · exact ⟨(by rw [wM (by omega)]; omega), (by rw [wM (by omega)]; omega)⟩
                        · exfalso; omega
                      · intro h7
                        exfalso; omega)
                 · intro h8
                   replace h8 := of_decide_eq_false h8
                   first
                   | (exfalso; omega)
                   | (exfalso; omega)))
       · intro h9
         replace h9 := of_decide_eq_false h9
         first
         | (exfalso; omega)
         | (refine ⟨(And.intro rfl (And.intro rfl rfl)), (And.intro (show (0 : Int) ≤ (13 : Int) from (by decide)) (show (13 : Int) < ((Mw.mk W).ws.length : Int) from (by rw [hW]; decide))), ?_, ?_, ?_, ?_, ?_, ?_⟩
            · exact ⟨(by decide), (by rw [hW]; decide)⟩
            · exact ⟨(by decide), (by rw [hW]; decide)⟩
            · exact ⟨(by decide), (by rw [hW]; decide)⟩
            · exact ⟨(by decide), (by rw [hW]; decide)⟩
            · intro h10
              replace h10 := of_decide_eq_true h10
              first
              | (exfalso; omega)
              | (refine ⟨?_, ?_⟩
                 · intro h11
                   replace h11 := of_decide_eq_true h11
                   first
                   | (exfalso; omega)
                   | (exact ⟨⟨n + 1, i, rd, rs, ws, xi, a, c, bk, value, IntKind.i64.wrap (steps + (1 : Int)), asked, W.set (13 : Nat) (0 : Int), rows⟩, ⟨rfl, rfl, t2 ⟨rfl, rfl, t7 ⟨rfl, rfl, rfl, rfl, rfl, t36 ⟨rfl, rfl, rfl, rfl, rfl, rfl, (wN (by omega)), ⟨(mkSure hB (by omega) (by omega) (by first | rfl | exact hW | (simp only [List.length_set]; first | rfl | exact hW))), trivial⟩, (mN hn), trivial⟩⟩⟩⟩⟩)
                 · intro h12
                   replace h12 := of_decide_eq_false h12
                   first
                   | (exfalso; omega)
                   | (refine ⟨?_, ?_⟩
                      · intro h13
                        replace h13 := of_decide_eq_true h13
                        first
                        | (exfalso; omega)
                        | (refine ⟨?_, ?_, ?_, ?_⟩
                           · exact ⟨(by rw [wM (by omega)]; omega), (by rw [wM (by omega)]; omega)⟩
                           · exact ⟨(by rw [wM (by omega)]; omega), (by rw [wM (by omega)]; omega)⟩
                           · intro h14
                             refine ⟨?_, ?_, (by simp only [List.length_cons, List.length_nil, tak_len] at *; first | omega | (have := rows_take rows hr8 xi (by omega); have := rows_len _ this; omega)), ?_⟩
                             · exact ⟨(by rw [wM (by omega)]; omega), (by rw [wM (by omega)]; omega)⟩
                             · exact ⟨(by rw [wM (by omega)]; omega), (by rw [wM (by omega)]; omega)⟩
                             · exfalso; omega
                           · intro h15
                             exfalso; omega)
                      · intro h16
                        replace h16 := of_decide_eq_false h16
                        first
                        | (exfalso; omega)
                        | (exfalso; omega)))
            · intro h17
              replace h17 := of_decide_eq_false h17
              first
              | (exfalso; omega)
              | (refine ⟨?_, ?_⟩
                 · intro h18
                   replace h18 := of_decide_eq_true h18
                   first
                   | (exfalso; omega)
                   | (exact ⟨⟨n + 1, i, rd, rs, ws, xi, a, c, bk, value, IntKind.i64.wrap (steps + (1 : Int)), asked, W.set (13 : Nat) (0 : Int), rows⟩, ⟨rfl, rfl, t2 ⟨rfl, rfl, t7 ⟨rfl, rfl, rfl, rfl, rfl, t36 ⟨rfl, rfl, rfl, rfl, rfl, rfl, (wN (by omega)), ⟨(mkSure hB (by omega) (by omega) (by first | rfl | exact hW | (simp only [List.length_set]; first | rfl | exact hW))), trivial⟩, (mN hn), trivial⟩⟩⟩⟩⟩)
                 · intro h19
                   replace h19 := of_decide_eq_false h19
                   first
                   | (exfalso; omega)
                   | (refine ⟨?_, ?_⟩
                      · intro h20
                        replace h20 := of_decide_eq_true h20
                        first
                        | (exfalso; omega)
                        | (refine ⟨?_, ?_, ?_, ?_⟩
                           · exact ⟨(by rw [wM (by omega)]; omega), (by rw [wM (by omega)]; omega)⟩
                           · exact ⟨(by rw [wM (by omega)]; omega), (by rw [wM (by omega)]; omega)⟩
                           · intro h21
                             refine ⟨?_, ?_, (by simp only [List.length_cons, List.length_nil, tak_len] at *; first | omega | (have := rows_take rows hr8 xi (by omega); have := rows_len _ this; omega)), ?_⟩
                             · exact ⟨(by rw [wM (by omega)]; omega), (by rw [wM (by omega)]; omega)⟩
                             · exact ⟨(by rw [wM (by omega)]; omega), (by rw [wM (by omega)]; omega)⟩
                             · exfalso; omega
                           · intro h22
                             exfalso; omega)
                      · intro h23
                        replace h23 := of_decide_eq_false h23
                        first
                        | (exfalso; omega)
                        | (exfalso; omega)))))
  · intro h24
    replace h24 := of_decide_eq_false h24
    first
    | (exfalso; omega)
    | (exact ⟨rfl, trivial⟩)
theorem un_k16 (l p : List Op) (cl w e : Int) (n : Nat) (i : Nat) (rd : List Wo) (rs : List Wo) (ws : List Wo) (xi : Nat) (a : Int) (c : Int) (bk : Int) (value : Int) (steps : Int) (asked : Int) (W : List Int) (rows :
 List Int) : Go.Sy.Tree.holds (cutS F (lookC (lU p)) 3000 Try.f4 b4 (fU l p cl w e) selU 16 (k16 p w e) ⟨n, i, rd, rs, ws, xi, a, c, bk, value, steps, asked, W, rows⟩) = ( (decide ((↑n : Int) < IntKind.i64.wrap
 ((IntKind.u64.wrap w).tmod 60)) = true → true = true ∧ True) ∧ (decide ((↑n : Int) < IntKind.i64.wrap ((IntKind.u64.wrap w).tmod 60)) = false → true = true ∧ True)) := by kernel_rfl
theorem un_k16_ok (l p : List Op) (cl w e : Int) (s : US) (hI : (k16 p w e).I s) : Paid (cutS F (lookC (lU p)) 3000 Try.f4 b4 (fU l p cl w e) selU 16 (k16 p w e) s) := by
  obtain ⟨n, i, rd, rs, ws, xi, a, c, bk, value, steps, asked, W, rows⟩ := s
  obtain ⟨⟨⟨hpO, hc, hi, hrd, hrs, hws, hwd, hrr⟩, he, hn, hW⟩, hx⟩ := hI
  have hW : W.length = 34 := hW
  have hc : c = 1 ∨ c = 2 := hc
  have hi : i ≤ p.length + 1 := hi
  have hrd : rd.length ≤ i := hrd
  have hrs : rs.length ≤ i := hrs
  have hws : ws.length ≤ i := hws
  have hwd : ∀ w ∈ ws, isData w.pl := hwd
  have hrr : ∀ w ∈ rs, 0 ≤ w.pl ∧ w.pl < 3 := hrr
  have hn : n ≤ 60 := hn
  have hB : ∀ {n xi : Nat} {a bk value steps asked : Int} {W rows : List Int}, baseI p ⟨n, i, rd, rs, ws, xi, a, c, bk, value, steps, asked, W, rows⟩ := mkBase hpO hc hi hrd hrs hws hwd hrr
  have hp8 := hpO.1
  have hw60 := when_lt w
  have he : i = p.length + 1 := he
  refine ⟨?_⟩
  rw [un_k16]
  refine ⟨?_, ?_⟩
  · intro h1
    replace h1 := of_decide_eq_true h1
    first
    | (exfalso; omega)
    | (exact ⟨rfl, trivial⟩)
  · intro h2
    replace h2 := of_decide_eq_false h2
    first
    | (exfalso; omega)
    | (exact ⟨rfl, trivial⟩)
theorem un_u0 (l p : List Op) (cl w e : Int) (n xi : Nat) (T1 : List Int) (ck steps cz : Int) : Go.Sy.Tree.holds (cutS F (lookC (lU p)) 3000 Try.f4 b4 (fU l p cl w e) selU 26 u0 ⟨n, xi, T1, ck, steps, cz⟩) = ( (decide
 ((↑n : Int) < 60) = true → sizeD.pre (mp1, ()) ∧ (decide ((↑(wR ck (2 : Int) (List.drop xi T1)).length : Int) < 34) = true → Stuck "sel: none") ∧ (decide ((↑(wR ck (2 : Int) (List.drop xi T1)).length : Int) < 34) = false
 → (decide ((↑xi : Int) < (↑(takT T1).length : Int)) = true → ((0 : Int) ≤ (↑xi : Int) ∧ (↑xi : Int) < (↑(takT T1).length : Int)) ∧ ((0 : Int) ≤ (↑xi : Int) ∧ (↑xi : Int) < (↑(takT T1).length : Int)) ∧ ((0 : Int) ≤ (↑xi :
 Int) ∧ (↑xi : Int) < (↑(takT T1).length : Int)) ∧ ((0 : Int) ≤ (↑xi : Int) ∧ (↑xi : Int) < (↑(takT T1).length : Int)) ∧ badD.pre (Mw.mk (wR ck (2 : Int) (List.drop xi T1)), (at3 (takT T1) (↑xi : Int)).pl, ()) ∧ ((0 :
 Int) ≤ (at3 (takT T1) (↑xi : Int)).pl ∧ (at3 (takT T1) (↑xi : Int)).pl < (↑(wR ck (2 : Int) (List.drop xi T1)).length : Int)) ∧ ((0 : Int) ≤ (at3 (takT T1) (↑xi : Int)).pl ∧ (at3 (takT T1) (↑xi : Int)).pl < (↑(wR ck (2 :
 Int) (List.drop xi T1)).length : Int)) ∧ ((0 : Int) ≤ (at3 (takT T1) (↑xi : Int)).pl ∧ (at3 (takT T1) (↑xi : Int)).pl < (↑(wR ck (2 : Int) (List.drop xi T1)).length : Int)) ∧ ((0 : Int) ≤ (at3 (takT T1) (↑xi : Int)).pl ∧
 (at3 (takT T1) (↑xi : Int)).pl < (↑(wR ck (2 : Int) (List.drop xi T1)).length : Int)) ∧ (decide (IntKind.i64.wrap ((↑xi : Int) + 1) < (↑(takT T1).length : Int)) = true → ∃ (s : DS), Z2 ((wR ck (2 : Int) (List.drop xi
 T1)).set (at3 (takT T1) (↑xi : Int)).pl.toNat (at3 (takT T1) (↑xi : Int)).vl = wR s.ck (2 : Int) (List.drop s.xi s.T) ∧ IntKind.i64.wrap (steps + 1) = s.steps ∧ Z37 (IntKind.i64.wrap ((↑xi : Int) + 1) = (↑s.xi : Int) ∧
 cz = s.cz ∧ Q 0 ∧ takT T1 = takT s.T ∧ Qb true ∧ cz = s.cz ∧ Qc 0 ∧ IntKind.i64.wrap ((↑n : Int) + 1) = (↑s.n : Int) ∧ (s.T ∈ L8 ∧ s.xi ≤ s.T.length ∧ s.n + (s.T.length - s.xi) + 1 ≤ 60) ∧ (1000 : Nat) - s.n < 1000 - n ∧
 True))) ∧ (decide (IntKind.i64.wrap ((↑xi : Int) + 1) < (↑(takT T1).length : Int)) = false → ∃ (s : DS), Z2 ((wR ck (2 : Int) (List.drop xi T1)).set (at3 (takT T1) (↑xi : Int)).pl.toNat (at3 (takT T1) (↑xi : Int)).vl =
 wR s.ck (2 : Int) (List.drop s.xi s.T) ∧ IntKind.i64.wrap (steps + 1) = s.steps ∧ Z37 (IntKind.i64.wrap ((↑xi : Int) + 1) = (↑s.xi : Int) ∧ cz = s.cz ∧ Q 0 ∧ takT T1 = takT s.T ∧ Qb true ∧ cz = s.cz ∧ Qc 0 ∧
 IntKind.i64.wrap ((↑n : Int) + 1) = (↑s.n : Int) ∧ (s.T ∈ L8 ∧ s.xi ≤ s.T.length ∧ s.n + (s.T.length - s.xi) + 1 ≤ 60) ∧ (1000 : Nat) - s.n < 1000 - n ∧ True)))) ∧ (decide ((↑xi : Int) < (↑(takT T1).length : Int)) =
 false → threadD.pre (mp1, (1 : Int), (0 : Int), ()) ∧ badD.pre (Mw.mk (wR ck (2 : Int) (List.drop xi T1)), (13 : Int), ()) ∧ ((0 : Int) ≤ 13 ∧ (13 : Int) < (↑(wR ck (2 : Int) (List.drop xi T1)).length : Int)) ∧ ((0 :
 Int) ≤ 13 ∧ (13 : Int) < (↑(wR ck (2 : Int) (List.drop xi T1)).length : Int)) ∧ ((0 : Int) ≤ 13 ∧ (13 : Int) < (↑(wR ck (2 : Int) (List.drop xi T1)).length : Int)) ∧ ((0 : Int) ≤ 13 ∧ (13 : Int) < (↑(wR ck (2 : Int)
 (List.drop xi T1)).length : Int)) ∧ (decide ((↑xi : Int) < (↑(takT T1).length : Int)) = true → ∃ (s : DS), Z2 ((wR ck (2 : Int) (List.drop xi T1)).set (13 : Nat) (0 : Int) = wR s.ck (2 : Int) (List.drop s.xi s.T) ∧
 IntKind.i64.wrap (steps + 1) = s.steps ∧ Z37 ((↑xi : Int) = (↑s.xi : Int) ∧ cz = s.cz ∧ Q 0 ∧ takT T1 = takT s.T ∧ constA (Value.bool false) = AVal.bool true ∧ cz = s.cz ∧ Qc 0 ∧ IntKind.i64.wrap ((↑n : Int) + 1) = (↑s.n
 : Int) ∧ (s.T ∈ L8 ∧ s.xi ≤ s.T.length ∧ s.n + (s.T.length - s.xi) + 1 ≤ 60) ∧ (1000 : Nat) - s.n < 1000 - n ∧ True))) ∧ (decide ((↑xi : Int) < (↑(takT T1).length : Int)) = false → ∃ (s : DS), Z2 ((wR ck (2 : Int)
 (List.drop xi T1)).set (13 : Nat) (0 : Int) = wT s.ck (0 : Int) (0 : Int) (0 : Int) (0 : Int) ∧ IntKind.i64.wrap (steps + 1) = s.steps ∧ Z38 (cz = s.cz ∧ Q 0 ∧ cz = s.cz ∧ Qc 2 ∧ IntKind.i64.wrap ((↑n : Int) + 1) = (↑s.n
 : Int) ∧ s.n ≤ 60 ∧ (100 : Nat) < 1000 - n ∧ True)))))) ∧ (decide ((↑n : Int) < 60) = false → dataD.pre (mp1, (0 : Int), ()) ∧ badD.pre (Mw.mk (wR ck (2 : Int) (List.drop xi T1)), (26 : Int), ()) ∧ ((0 : Int) ≤ 26 ∧ (26
 : Int) < (↑(wR ck (2 : Int) (List.drop xi T1)).length : Int)) ∧ ((0 : Int) ≤ 26 ∧ (26 : Int) < (↑(wR ck (2 : Int) (List.drop xi T1)).length : Int)) ∧ ((at0 (wR ck (2 : Int) (List.drop xi T1)) (26 : Int) != 0) = true →
 false = true ∧ True) ∧ ((at0 (wR ck (2 : Int) (List.drop xi T1)) (26 : Int) != 0) = false → dataD.pre (mp1, (1 : Int), ()) ∧ badD.pre (Mw.mk (wR ck (2 : Int) (List.drop xi T1)), (28 : Int), ()) ∧ ((0 : Int) ≤ 28 ∧ (28 :
 Int) < (↑(wR ck (2 : Int) (List.drop xi T1)).length : Int)) ∧ ((0 : Int) ≤ 28 ∧ (28 : Int) < (↑(wR ck (2 : Int) (List.drop xi T1)).length : Int)) ∧ ((at0 (wR ck (2 : Int) (List.drop xi T1)) (28 : Int) != 0) = true →
 false = true ∧ True) ∧ ((at0 (wR ck (2 : Int) (List.drop xi T1)) (28 : Int) != 0) = false → dataD.pre (mp1, (2 : Int), ()) ∧ badD.pre (Mw.mk (wR ck (2 : Int) (List.drop xi T1)), (30 : Int), ()) ∧ ((0 : Int) ≤ 30 ∧ (30 :
 Int) < (↑(wR ck (2 : Int) (List.drop xi T1)).length : Int)) ∧ ((0 : Int) ≤ 30 ∧ (30 : Int) < (↑(wR ck (2 : Int) (List.drop xi T1)).length : Int)) ∧ ((at0 (wR ck (2 : Int) (List.drop xi T1)) (30 : Int) != 0) = true →
 false = true ∧ True) ∧ ((at0 (wR ck (2 : Int) (List.drop xi T1)) (30 : Int) != 0) = false → dataD.pre (mp1, (3 : Int), ()) ∧ badD.pre (Mw.mk (wR ck (2 : Int) (List.drop xi T1)), (32 : Int), ()) ∧ ((0 : Int) ≤ 32 ∧ (32 :
 Int) < (↑(wR ck (2 : Int) (List.drop xi T1)).length : Int)) ∧ ((0 : Int) ≤ 32 ∧ (32 : Int) < (↑(wR ck (2 : Int) (List.drop xi T1)).length : Int)) ∧ ((at0 (wR ck (2 : Int) (List.drop xi T1)) (32 : Int) != 0) = true →
 false = true ∧ True) ∧ ((at0 (wR ck (2 : Int) (List.drop xi T1)) (32 : Int) != 0) = false → stripeD.pre (mp1, (0 : Int), ()) ∧ badD.pre (Mw.mk (wR ck (2 : Int) (List.drop xi T1)), (2 : Int), ()) ∧ ((0 : Int) ≤ 2 ∧ (2 :
 Int) < (↑(wR ck (2 : Int) (List.drop xi T1)).length : Int)) ∧ ((0 : Int) ≤ 2 ∧ (2 : Int) < (↑(wR ck (2 : Int) (List.drop xi T1)).length : Int)) ∧ ((at0 (wR ck (2 : Int) (List.drop xi T1)) (2 : Int) != 0) = true → false =
 true ∧ True) ∧ ((at0 (wR ck (2 : Int) (List.drop xi T1)) (2 : Int) != 0) = false → stripeD.pre (mp1, (1 : Int), ()) ∧ badD.pre (Mw.mk (wR ck (2 : Int) (List.drop xi T1)), (3 : Int), ()) ∧ ((0 : Int) ≤ 3 ∧ (3 : Int) <
 (↑(wR ck (2 : Int) (List.drop xi T1)).length : Int)) ∧ ((0 : Int) ≤ 3 ∧ (3 : Int) < (↑(wR ck (2 : Int) (List.drop xi T1)).length : Int)) ∧ ((at0 (wR ck (2 : Int) (List.drop xi T1)) (3 : Int) != 0) = true → false = true ∧
 True) ∧ ((at0 (wR ck (2 : Int) (List.drop xi T1)) (3 : Int) != 0) = false → stripeD.pre (mp1, (2 : Int), ()) ∧ badD.pre (Mw.mk (wR ck (2 : Int) (List.drop xi T1)), (4 : Int), ()) ∧ ((0 : Int) ≤ 4 ∧ (4 : Int) < (↑(wR ck
 (2 : Int) (List.drop xi T1)).length : Int)) ∧ ((0 : Int) ≤ 4 ∧ (4 : Int) < (↑(wR ck (2 : Int) (List.drop xi T1)).length : Int)) ∧ ((at0 (wR ck (2 : Int) (List.drop xi T1)) (4 : Int) != 0) = true → false = true ∧ True) ∧
 ((at0 (wR ck (2 : Int) (List.drop xi T1)) (4 : Int) != 0) = false → false = true ∧ True))))))))) := by kernel_rfl
theorem un_u0_ok (l p : List Op) (cl w e : Int) (s : DS) (hI : u0.I s) : Paid (cutS F (lookC (lU p)) 3000 Try.f4 b4 (fU l p cl w e) selU 26 u0 s) := by
  obtain ⟨n, xi, T1, ck, steps, cz⟩ := s
  obtain ⟨hT, hx, hn⟩ := hI
  have hT : T1 ∈ L8 := hT
  have hx : xi ≤ T1.length := hx
  have hn : n + (T1.length - xi) + 1 ≤ 60 := hn
  have hT3 := rows_len T1 hT
  refine ⟨?_⟩
  rw [un_u0]
  refine ⟨?_, ?_⟩
  · intro h1
    replace h1 := of_decide_eq_true h1
    first
    | (exfalso; omega)
    | (refine ⟨rfl, ?_, ?_⟩
       · intro h2
         exact absurd ((show decide ((↑(wR ck (2 : Int) (List.drop xi T1)).length : Int) < (34 : Int)) = false by kernel_rfl).symm.trans h2) (by decide)
       · intro h3
         replace h3 := of_decide_eq_false h3
         first
         | (exfalso; omega)
         | (refine ⟨?_, ?_⟩
            · intro h4
              replace h4 := of_decide_eq_true h4
              rw [tak_len] at h4
              first
              | (exfalso; omega)
              | (have hb := back_all ck T1 hT xi (by omega)
                 have hg := hb.1
                 have hback := hb.2
                 refine ⟨?_, ?_, ?_, ?_, (And.intro (show (0 : Int) ≤ (at3 (takT T1) (↑xi : Int)).pl from hg.1) (show (at3 (takT T1) (↑xi : Int)).pl < ((Mw.mk (wR ck (2 : Int) (List.drop xi T1))).ws.length : Int) from (show _ < (34 : Int) from hg.2))), ?_, ?_, ?_, ?_, ?_, ?_⟩
                 · exact ⟨(by omega), (by first | omega | (simp only [tak_len] at *; omega))⟩
                 · exact ⟨(by omega), (by first | omega | (simp only [tak_len] at *; omega))⟩
                 · exact ⟨(by omega), (by first | omega | (simp only [tak_len] at *; omega))⟩
                 · exact ⟨(by omega), (by first | omega | (simp only [tak_len] at *; omega))⟩
                 · exact ⟨hg.1, (show _ < (34 : Int) from hg.2)⟩
                 · exact ⟨hg.1, (show _ < (34 : Int) from hg.2)⟩
                 · exact ⟨hg.1, (show _ < (34 : Int) from hg.2)⟩
                 · exact ⟨hg.1, (show _ < (34 : Int) from hg.2)⟩
                 · intro h5
                   replace h5 := of_decide_eq_true h5
                   rw [tak_len] at h5
                   rw [wN (show xi < 100000000 by omega)] at h5
                   first
                   | (exfalso; omega)
                   | (exact ⟨⟨n + 1, xi + 1, T1, ck, IntKind.i64.wrap (steps + (1 : Int)), cz⟩, (t2 ⟨hback, rfl, t37 ⟨(wN (by omega)), rfl, rfl, rfl, rfl, rfl, rfl, (wN (by omega)), ⟨hT, (show (xi + 1) ≤ (T1).length by omega), (show (n + 1) + ((T1).length - (xi + 1)) + (1 : Nat) ≤ (60 : Nat) by omega)⟩, (show (1000 : Nat) - (n + 1) < (1000 : Nat) - n by omega), trivial⟩⟩)⟩)
                 · intro h6
                   replace h6 := of_decide_eq_false h6
                   rw [tak_len] at h6
                   rw [wN (show xi < 100000000 by omega)] at h6
                   first
                   | (exfalso; omega)
                   | (exact ⟨⟨n + 1, xi + 1, T1, ck, IntKind.i64.wrap (steps + (1 : Int)), cz⟩, (t2 ⟨hback, rfl, t37 ⟨(wN (by omega)), rfl, rfl, rfl, rfl, rfl, rfl, (wN (by omega)), ⟨hT, (show (xi + 1) ≤ (T1).length by omega), (show (n + 1) + ((T1).length - (xi + 1)) + (1 : Nat) ≤ (60 : Nat) by omega)⟩, (show (1000 : Nat) - (n + 1) < (1000 : Nat) - n by omega), trivial⟩⟩)⟩))
            · intro h7
              replace h7 := of_decide_eq_false h7
              rw [tak_len] at h7
              first
              | (exfalso; omega)
              | (refine ⟨(And.intro rfl (And.intro rfl rfl)), (And.intro (show (0 : Int) ≤ (13 : Int) from (by decide)) (show (13 : Int) < ((Mw.mk (wR ck (2 : Int) (List.drop xi T1))).ws.length : Int) from (show _ < ((34 : Nat) : Int) by decide))), ?_, ?_, ?_, ?_, ?_, ?_⟩
                 · exact ⟨(by decide), (show _ < ((34 : Nat) : Int) by decide)⟩
                 · exact ⟨(by decide), (show _ < ((34 : Nat) : Int) by decide)⟩
                 · exact ⟨(by decide), (show _ < ((34 : Nat) : Int) by decide)⟩
                 · exact ⟨(by decide), (show _ < ((34 : Nat) : Int) by decide)⟩
                 · intro h8
                   replace h8 := of_decide_eq_true h8
                   rw [tak_len] at h8
                   first
                   | (exfalso; omega)
                   | (have hb := back_all ck T1 hT xi (by omega)
                      have hg := hb.1
                      have hback := hb.2
                      exact ⟨⟨n + 1, xi, T1, ck, IntKind.i64.wrap (steps + (1 : Int)), cz⟩, (t2 ⟨(by exfalso; omega), rfl, t37 ⟨rfl, rfl, rfl, rfl, rfl, rfl, rfl, (wN (by omega)), ⟨hT, (show (xi) ≤ (T1).length by omega), (show (n + 1) + ((T1).length - (xi)) + (1 : Nat) ≤ (60 : Nat) by omega)⟩, (show (1000 : Nat) - (n + 1) < (1000 : Nat) - n by omega), trivial⟩⟩)⟩)
                 · intro h9
                   replace h9 := of_decide_eq_false h9
                   rw [tak_len] at h9
                   first
                   | (exfalso; omega)
                   | (exact ⟨⟨n + 1, xi, [], ck, IntKind.i64.wrap (steps + (1 : Int)), cz⟩, (t2 ⟨(end_all ck (by omega)), rfl, t38 ⟨rfl, rfl, rfl, rfl, (wN (by omega)), (show (n + 1) ≤ (60 : Nat) by omega), (show (100 : Nat) < (1000 : Nat) - n by omega), trivial⟩⟩)⟩))))
  · intro h10
    replace h10 := of_decide_eq_false h10
    first
    | (exfalso; omega)
    | (refine ⟨(And.intro rfl (And.intro (show (0 : Int) ≤ (0 : Int) from (by decide)) (show (0 : Int) < (4 : Int) from (by decide)))), (And.intro (show (0 : Int) ≤ (26 : Int) from (by decide)) (show (26 : Int) < ((Mw.mk (wR ck (2 : Int) (List.drop xi T1))).ws.length : Int) from (show _ < ((34 : Nat) : Int) by decide))), ?_, ?_, ?_, ?_⟩
       · exact ⟨(by decide), (show _ < ((34 : Nat) : Int) by decide)⟩
       · exact ⟨(by decide), (show _ < ((34 : Nat) : Int) by decide)⟩
       · intro h11
         exact ⟨(by exfalso; omega), trivial⟩
       · intro h12
         refine ⟨(And.intro rfl (And.intro (show (0 : Int) ≤ (1 : Int) from (by decide)) (show (1 : Int) < (4 : Int) from (by decide)))), (And.intro (show (0 : Int) ≤ (28 : Int) from (by decide)) (show (28 : Int) < ((Mw.mk (wR ck (2 : Int) (List.drop xi T1))).ws.length : Int) from (show _ < ((34 : Nat) : Int) by decide))), ?_, ?_, ?_, ?_⟩
         · exact ⟨(by decide), (show _ < ((34 : Nat) : Int) by decide)⟩
         · exact ⟨(by decide), (show _ < ((34 : Nat) : Int) by decide)⟩
         · intro h13
           exact ⟨(by exfalso; omega), trivial⟩
         · intro h14
           refine ⟨(And.intro rfl (And.intro (show (0 : Int) ≤ (2 : Int) from (by decide)) (show (2 : Int) < (4 : Int) from (by decide)))), (And.intro (show (0 : Int) ≤ (30 : Int) from (by decide)) (show (30 : Int) < ((Mw.mk (wR ck (2 : Int) (List.drop xi T1))).ws.length : Int) from (show _ < ((34 : Nat) : Int) by decide))), ?_, ?_, ?_, ?_⟩
           · exact ⟨(by decide), (show _ < ((34 : Nat) : Int) by decide)⟩
           · exact ⟨(by decide), (show _ < ((34 : Nat) : Int) by decide)⟩
           · intro h15
             exact ⟨(by exfalso; omega), trivial⟩
           · intro h16
             refine ⟨(And.intro rfl (And.intro (show (0 : Int) ≤ (3 : Int) from (by decide)) (show (3 : Int) < (4 : Int) from (by decide)))), (And.intro (show (0 : Int) ≤ (32 : Int) from (by decide)) (show (32 : Int) < ((Mw.mk (wR ck (2 : Int) (List.drop xi T1))).ws.length : Int) from (show _ < ((34 : Nat) : Int) by decide))), ?_, ?_, ?_, ?_⟩
             · exact ⟨(by decide), (show _ < ((34 : Nat) : Int) by decide)⟩
             · exact ⟨(by decide), (show _ < ((34 : Nat) : Int) by decide)⟩
             · intro h17
               exact ⟨(by exfalso; omega), trivial⟩
             · intro h18
               refine ⟨(And.intro rfl (And.intro (show (0 : Int) ≤ (0 : Int) from (by decide)) (show (0 : Int) < (3 : Int) from (by decide)))), (And.intro (show (0 : Int) ≤ (2 : Int) from (by decide)) (show (2 : Int) < ((Mw.mk (wR ck (2 : Int) (List.drop xi T1))).ws.length : Int) from (show _ < ((34 : Nat) : Int) by decide))), ?_, ?_, ?_, ?_⟩
               · exact ⟨(by decide), (show _ < ((34 : Nat) : Int) by decide)⟩
               · exact ⟨(by decide), (show _ < ((34 : Nat) : Int) by decide)⟩
               · intro h19
                 exact ⟨(by exfalso; omega), trivial⟩
               · intro h20
                 refine ⟨(And.intro rfl (And.intro (show (0 : Int) ≤ (1 : Int) from (by decide)) (show (1 : Int) < (3 : Int) from (by decide)))), (And.intro (show (0 : Int) ≤ (3 : Int) from (by decide)) (show (3 : Int) < ((Mw.mk (wR ck (2 : Int) (List.drop xi T1))).ws.length : Int) from (show _ < ((34 : Nat) : Int) by decide))), ?_, ?_, ?_, ?_⟩
                 · exact ⟨(by decide), (show _ < ((34 : Nat) : Int) by decide)⟩
                 · exact ⟨(by decide), (show _ < ((34 : Nat) : Int) by decide)⟩
                 · intro h21
                   exact ⟨(by exfalso; omega), trivial⟩
                 · intro h22
                   refine ⟨(And.intro rfl (And.intro (show (0 : Int) ≤ (2 : Int) from (by decide)) (show (2 : Int) < (3 : Int) from (by decide)))), (And.intro (show (0 : Int) ≤ (4 : Int) from (by decide)) (show (4 : Int) < ((Mw.mk (wR ck (2 : Int) (List.drop xi T1))).ws.length : Int) from (show _ < ((34 : Nat) : Int) by decide))), ?_, ?_, ?_, ?_⟩
                   · exact ⟨(by decide), (show _ < ((34 : Nat) : Int) by decide)⟩
                   · exact ⟨(by decide), (show _ < ((34 : Nat) : Int) by decide)⟩
                   · intro h23
                     exact ⟨(by exfalso; omega), trivial⟩
                   · intro h24
                     exact ⟨(by exfalso; omega), trivial⟩)
theorem un_u1 (l p : List Op) (cl w e : Int) (n xi : Nat) (T1 : List Int) (ck steps cz : Int) : Go.Sy.Tree.holds (cutS F (lookC (lU p)) 3000 Try.f4 b4 (fU l p cl w e) selU 26 u1 ⟨n, xi, T1, ck, steps, cz⟩) = ( (decide
 ((↑n : Int) < 60) = true → dataD.pre (mp1, (0 : Int), ()) ∧ badD.pre (Mw.mk (wT ck (0 : Int) (0 : Int) (0 : Int) (0 : Int)), (26 : Int), ()) ∧ ((0 : Int) ≤ 26 ∧ (26 : Int) < (↑(wT ck (0 : Int) (0 : Int) (0 : Int) (0 :
 Int)).length : Int)) ∧ ((0 : Int) ≤ 26 ∧ (26 : Int) < (↑(wT ck (0 : Int) (0 : Int) (0 : Int) (0 : Int)).length : Int)) ∧ ((at0 (wT ck (0 : Int) (0 : Int) (0 : Int) (0 : Int)) (26 : Int) != 0) = true → false = true ∧
 True) ∧ ((at0 (wT ck (0 : Int) (0 : Int) (0 : Int) (0 : Int)) (26 : Int) != 0) = false → dataD.pre (mp1, (1 : Int), ()) ∧ badD.pre (Mw.mk (wT ck (0 : Int) (0 : Int) (0 : Int) (0 : Int)), (28 : Int), ()) ∧ ((0 : Int) ≤ 28
 ∧ (28 : Int) < (↑(wT ck (0 : Int) (0 : Int) (0 : Int) (0 : Int)).length : Int)) ∧ ((0 : Int) ≤ 28 ∧ (28 : Int) < (↑(wT ck (0 : Int) (0 : Int) (0 : Int) (0 : Int)).length : Int)) ∧ ((at0 (wT ck (0 : Int) (0 : Int) (0 :
 Int) (0 : Int)) (28 : Int) != 0) = true → false = true ∧ True) ∧ ((at0 (wT ck (0 : Int) (0 : Int) (0 : Int) (0 : Int)) (28 : Int) != 0) = false → dataD.pre (mp1, (2 : Int), ()) ∧ badD.pre (Mw.mk (wT ck (0 : Int) (0 :
 Int) (0 : Int) (0 : Int)), (30 : Int), ()) ∧ ((0 : Int) ≤ 30 ∧ (30 : Int) < (↑(wT ck (0 : Int) (0 : Int) (0 : Int) (0 : Int)).length : Int)) ∧ ((0 : Int) ≤ 30 ∧ (30 : Int) < (↑(wT ck (0 : Int) (0 : Int) (0 : Int) (0 :
 Int)).length : Int)) ∧ ((at0 (wT ck (0 : Int) (0 : Int) (0 : Int) (0 : Int)) (30 : Int) != 0) = true → false = true ∧ True) ∧ ((at0 (wT ck (0 : Int) (0 : Int) (0 : Int) (0 : Int)) (30 : Int) != 0) = false → dataD.pre
 (mp1, (3 : Int), ()) ∧ badD.pre (Mw.mk (wT ck (0 : Int) (0 : Int) (0 : Int) (0 : Int)), (32 : Int), ()) ∧ ((0 : Int) ≤ 32 ∧ (32 : Int) < (↑(wT ck (0 : Int) (0 : Int) (0 : Int) (0 : Int)).length : Int)) ∧ ((0 : Int) ≤ 32
 ∧ (32 : Int) < (↑(wT ck (0 : Int) (0 : Int) (0 : Int) (0 : Int)).length : Int)) ∧ ((at0 (wT ck (0 : Int) (0 : Int) (0 : Int) (0 : Int)) (32 : Int) != 0) = true → false = true ∧ True) ∧ ((at0 (wT ck (0 : Int) (0 : Int) (0
 : Int) (0 : Int)) (32 : Int) != 0) = false → stripeD.pre (mp1, (0 : Int), ()) ∧ badD.pre (Mw.mk (wT ck (0 : Int) (0 : Int) (0 : Int) (0 : Int)), (2 : Int), ()) ∧ ((0 : Int) ≤ 2 ∧ (2 : Int) < (↑(wT ck (0 : Int) (0 : Int)
 (0 : Int) (0 : Int)).length : Int)) ∧ ((0 : Int) ≤ 2 ∧ (2 : Int) < (↑(wT ck (0 : Int) (0 : Int) (0 : Int) (0 : Int)).length : Int)) ∧ ((at0 (wT ck (0 : Int) (0 : Int) (0 : Int) (0 : Int)) (2 : Int) != 0) = true → false =
 true ∧ True) ∧ ((at0 (wT ck (0 : Int) (0 : Int) (0 : Int) (0 : Int)) (2 : Int) != 0) = false → stripeD.pre (mp1, (1 : Int), ()) ∧ badD.pre (Mw.mk (wT ck (0 : Int) (0 : Int) (0 : Int) (0 : Int)), (3 : Int), ()) ∧ ((0 :
 Int) ≤ 3 ∧ (3 : Int) < (↑(wT ck (0 : Int) (0 : Int) (0 : Int) (0 : Int)).length : Int)) ∧ ((0 : Int) ≤ 3 ∧ (3 : Int) < (↑(wT ck (0 : Int) (0 : Int) (0 : Int) (0 : Int)).length : Int)) ∧ ((at0 (wT ck (0 : Int) (0 : Int)
 (0 : Int) (0 : Int)) (3 : Int) != 0) = true → false = true ∧ True) ∧ ((at0 (wT ck (0 : Int) (0 : Int) (0 : Int) (0 : Int)) (3 : Int) != 0) = false → stripeD.pre (mp1, (2 : Int), ()) ∧ badD.pre (Mw.mk (wT ck (0 : Int) (0
 : Int) (0 : Int) (0 : Int)), (4 : Int), ()) ∧ ((0 : Int) ≤ 4 ∧ (4 : Int) < (↑(wT ck (0 : Int) (0 : Int) (0 : Int) (0 : Int)).length : Int)) ∧ ((0 : Int) ≤ 4 ∧ (4 : Int) < (↑(wT ck (0 : Int) (0 : Int) (0 : Int) (0 :
 Int)).length : Int)) ∧ ((at0 (wT ck (0 : Int) (0 : Int) (0 : Int) (0 : Int)) (4 : Int) != 0) = true → false = true ∧ True) ∧ ((at0 (wT ck (0 : Int) (0 : Int) (0 : Int) (0 : Int)) (4 : Int) != 0) = false → ((cz == cz) =
 true → threadD.pre (mp1, (1 : Int), (0 : Int), ()) ∧ badD.pre (Mw.mk (wT ck (0 : Int) (0 : Int) (0 : Int) (0 : Int)), (13 : Int), ()) ∧ ((0 : Int) ≤ 13 ∧ (13 : Int) < (↑(wT ck (0 : Int) (0 : Int) (0 : Int) (0 :
 Int)).length : Int)) ∧ ((0 : Int) ≤ 13 ∧ (13 : Int) < (↑(wT ck (0 : Int) (0 : Int) (0 : Int) (0 : Int)).length : Int)) ∧ ((at0 (wT ck (0 : Int) (0 : Int) (0 : Int) (0 : Int)) (13 : Int) == 0) = true → seqD.pre (mp1, ())
 ∧ badD.pre (Mw.mk (wT ck (0 : Int) (0 : Int) (0 : Int) (0 : Int)), (1 : Int), ()) ∧ ((0 : Int) ≤ 1 ∧ (1 : Int) < (↑(wT ck (0 : Int) (0 : Int) (0 : Int) (0 : Int)).length : Int)) ∧ ((0 : Int) ≤ 1 ∧ (1 : Int) < (↑(wT ck (0
 : Int) (0 : Int) (0 : Int) (0 : Int)).length : Int)) ∧ ((at0 (wT ck (0 : Int) (0 : Int) (0 : Int) (0 : Int)) (1 : Int) == 0) = true → dataD.pre (mp1, (0 : Int), ()) ∧ true = true ∧ True) ∧ ((at0 (wT ck (0 : Int) (0 :
 Int) (0 : Int) (0 : Int)) (1 : Int) == 0) = false → false = true ∧ True)) ∧ ((at0 (wT ck (0 : Int) (0 : Int) (0 : Int) (0 : Int)) (13 : Int) == 0) = false → false = true ∧ True)) ∧ ((cz == cz) = false → false = true ∧
 True))))))))) ∧ (decide ((↑n : Int) < 60) = false → dataD.pre (mp1, (0 : Int), ()) ∧ badD.pre (Mw.mk (wT ck (0 : Int) (0 : Int) (0 : Int) (0 : Int)), (26 : Int), ()) ∧ ((0 : Int) ≤ 26 ∧ (26 : Int) < (↑(wT ck (0 : Int) (0
 : Int) (0 : Int) (0 : Int)).length : Int)) ∧ ((0 : Int) ≤ 26 ∧ (26 : Int) < (↑(wT ck (0 : Int) (0 : Int) (0 : Int) (0 : Int)).length : Int)) ∧ ((at0 (wT ck (0 : Int) (0 : Int) (0 : Int) (0 : Int)) (26 : Int) != 0) = true
 → false = true ∧ True) ∧ ((at0 (wT ck (0 : Int) (0 : Int) (0 : Int) (0 : Int)) (26 : Int) != 0) = false → dataD.pre (mp1, (1 : Int), ()) ∧ badD.pre (Mw.mk (wT ck (0 : Int) (0 : Int) (0 : Int) (0 : Int)), (28 : Int), ())
 ∧ ((0 : Int) ≤ 28 ∧ (28 : Int) < (↑(wT ck (0 : Int) (0 : Int) (0 : Int) (0 : Int)).length : Int)) ∧ ((0 : Int) ≤ 28 ∧ (28 : Int) < (↑(wT ck (0 : Int) (0 : Int) (0 : Int) (0 : Int)).length : Int)) ∧ ((at0 (wT ck (0 : Int)
 (0 : Int) (0 : Int) (0 : Int)) (28 : Int) != 0) = true → false = true ∧ True) ∧ ((at0 (wT ck (0 : Int) (0 : Int) (0 : Int) (0 : Int)) (28 : Int) != 0) = false → dataD.pre (mp1, (2 : Int), ()) ∧ badD.pre (Mw.mk (wT ck (0
 : Int) (0 : Int) (0 : Int) (0 : Int)), (30 : Int), ()) ∧ ((0 : Int) ≤ 30 ∧ (30 : Int) < (↑(wT ck (0 : Int) (0 : Int) (0 : Int) (0 : Int)).length : Int)) ∧ ((0 : Int) ≤ 30 ∧ (30 : Int) < (↑(wT ck (0 : Int) (0 : Int) (0 :
 Int) (0 : Int)).length : Int)) ∧ ((at0 (wT ck (0 : Int) (0 : Int) (0 : Int) (0 : Int)) (30 : Int) != 0) = true → false = true ∧ True) ∧ ((at0 (wT ck (0 : Int) (0 : Int) (0 : Int) (0 : Int)) (30 : Int) != 0) = false →
 dataD.pre (mp1, (3 : Int), ()) ∧ badD.pre (Mw.mk (wT ck (0 : Int) (0 : Int) (0 : Int) (0 : Int)), (32 : Int), ()) ∧ ((0 : Int) ≤ 32 ∧ (32 : Int) < (↑(wT ck (0 : Int) (0 : Int) (0 : Int) (0 : Int)).length : Int)) ∧ ((0 :
 Int) ≤ 32 ∧ (32 : Int) < (↑(wT ck (0 : Int) (0 : Int) (0 : Int) (0 : Int)).length : Int)) ∧ ((at0 (wT ck (0 : Int) (0 : Int) (0 : Int) (0 : Int)) (32 : Int) != 0) = true → false = true ∧ True) ∧ ((at0 (wT ck (0 : Int) (0
 : Int) (0 : Int) (0 : Int)) (32 : Int) != 0) = false → stripeD.pre (mp1, (0 : Int), ()) ∧ badD.pre (Mw.mk (wT ck (0 : Int) (0 : Int) (0 : Int) (0 : Int)), (2 : Int), ()) ∧ ((0 : Int) ≤ 2 ∧ (2 : Int) < (↑(wT ck (0 : Int)
 (0 : Int) (0 : Int) (0 : Int)).length : Int)) ∧ ((0 : Int) ≤ 2 ∧ (2 : Int) < (↑(wT ck (0 : Int) (0 : Int) (0 : Int) (0 : Int)).length : Int)) ∧ ((at0 (wT ck (0 : Int) (0 : Int) (0 : Int) (0 : Int)) (2 : Int) != 0) = true
 → false = true ∧ True) ∧ ((at0 (wT ck (0 : Int) (0 : Int) (0 : Int) (0 : Int)) (2 : Int) != 0) = false → stripeD.pre (mp1, (1 : Int), ()) ∧ badD.pre (Mw.mk (wT ck (0 : Int) (0 : Int) (0 : Int) (0 : Int)), (3 : Int), ())
 ∧ ((0 : Int) ≤ 3 ∧ (3 : Int) < (↑(wT ck (0 : Int) (0 : Int) (0 : Int) (0 : Int)).length : Int)) ∧ ((0 : Int) ≤ 3 ∧ (3 : Int) < (↑(wT ck (0 : Int) (0 : Int) (0 : Int) (0 : Int)).length : Int)) ∧ ((at0 (wT ck (0 : Int) (0
 : Int) (0 : Int) (0 : Int)) (3 : Int) != 0) = true → false = true ∧ True) ∧ ((at0 (wT ck (0 : Int) (0 : Int) (0 : Int) (0 : Int)) (3 : Int) != 0) = false → stripeD.pre (mp1, (2 : Int), ()) ∧ badD.pre (Mw.mk (wT ck (0 :
 Int) (0 : Int) (0 : Int) (0 : Int)), (4 : Int), ()) ∧ ((0 : Int) ≤ 4 ∧ (4 : Int) < (↑(wT ck (0 : Int) (0 : Int) (0 : Int) (0 : Int)).length : Int)) ∧ ((0 : Int) ≤ 4 ∧ (4 : Int) < (↑(wT ck (0 : Int) (0 : Int) (0 : Int) (0
 : Int)).length : Int)) ∧ ((at0 (wT ck (0 : Int) (0 : Int) (0 : Int) (0 : Int)) (4 : Int) != 0) = true → false = true ∧ True) ∧ ((at0 (wT ck (0 : Int) (0 : Int) (0 : Int) (0 : Int)) (4 : Int) != 0) = false → ((cz == cz) =
 true → threadD.pre (mp1, (1 : Int), (0 : Int), ()) ∧ badD.pre (Mw.mk (wT ck (0 : Int) (0 : Int) (0 : Int) (0 : Int)), (13 : Int), ()) ∧ ((0 : Int) ≤ 13 ∧ (13 : Int) < (↑(wT ck (0 : Int) (0 : Int) (0 : Int) (0 :
 Int)).length : Int)) ∧ ((0 : Int) ≤ 13 ∧ (13 : Int) < (↑(wT ck (0 : Int) (0 : Int) (0 : Int) (0 : Int)).length : Int)) ∧ ((at0 (wT ck (0 : Int) (0 : Int) (0 : Int) (0 : Int)) (13 : Int) == 0) = true → seqD.pre (mp1, ())
 ∧ badD.pre (Mw.mk (wT ck (0 : Int) (0 : Int) (0 : Int) (0 : Int)), (1 : Int), ()) ∧ ((0 : Int) ≤ 1 ∧ (1 : Int) < (↑(wT ck (0 : Int) (0 : Int) (0 : Int) (0 : Int)).length : Int)) ∧ ((0 : Int) ≤ 1 ∧ (1 : Int) < (↑(wT ck (0
 : Int) (0 : Int) (0 : Int) (0 : Int)).length : Int)) ∧ ((at0 (wT ck (0 : Int) (0 : Int) (0 : Int) (0 : Int)) (1 : Int) == 0) = true → dataD.pre (mp1, (0 : Int), ()) ∧ true = true ∧ True) ∧ ((at0 (wT ck (0 : Int) (0 :
 Int) (0 : Int) (0 : Int)) (1 : Int) == 0) = false → false = true ∧ True)) ∧ ((at0 (wT ck (0 : Int) (0 : Int) (0 : Int) (0 : Int)) (13 : Int) == 0) = false → false = true ∧ True)) ∧ ((cz == cz) = false → false = true ∧
 True)))))))))) := by kernel_rfl
theorem un_u1_ok (l p : List Op) (cl w e : Int) (s : DS) (hI : u1.I s) : Paid (cutS F (lookC (lU p)) 3000 Try.f4 b4 (fU l p cl w e) selU 26 u1 s) := by
  obtain ⟨n, xi, T1, ck, steps, cz⟩ := s
  have hn : n ≤ 60 := hI
  refine ⟨?_⟩
  rw [un_u1]
  refine ⟨?_, ?_⟩
  · intro h1
    replace h1 := of_decide_eq_true h1
    first
    | (exfalso; omega)
    | (refine ⟨(And.intro rfl (And.intro (show (0 : Int) ≤ (0 : Int) from (by decide)) (show (0 : Int) < (4 : Int) from (by decide)))), (And.intro (show (0 : Int) ≤ (26 : Int) from (by decide)) (show (26 : Int) < ((Mw.mk (wT ck (0 : Int) (0 : Int) (0 : Int) (0 : Int))).ws.length : Int) from (show _ < ((34 : Nat) : Int) by decide))), ?_, ?_, ?_, ?_⟩
       · exact ⟨(by decide), (show _ < ((34 : Nat) : Int) by decide)⟩
       · exact ⟨(by decide), (show _ < ((34 : Nat) : Int) by decide)⟩
       · intro h2
         exact absurd ((show (at0 (wT ck (0 : Int) (0 : Int) (0 : Int) (0 : Int)) (26 : Int) != (0 : Int)) = false by kernel_rfl).symm.trans h2) (by decide)
       · intro h3
         refine ⟨(And.intro rfl (And.intro (show (0 : Int) ≤ (1 : Int) from (by decide)) (show (1 : Int) < (4 : Int) from (by decide)))), (And.intro (show (0 : Int) ≤ (28 : Int) from (by decide)) (show (28 : Int) < ((Mw.mk (wT ck (0 : Int) (0 : Int) (0 : Int) (0 : Int))).ws.length : Int) from (show _ < ((34 : Nat) : Int) by decide))), ?_, ?_, ?_, ?_⟩
         · exact ⟨(by decide), (show _ < ((34 : Nat) : Int) by decide)⟩
         · exact ⟨(by decide), (show _ < ((34 : Nat) : Int) by decide)⟩
         · intro h4
           exact absurd ((show (at0 (wT ck (0 : Int) (0 : Int) (0 : Int) (0 : Int)) (28 : Int) != (0 : Int)) = false by kernel_rfl).symm.trans h4) (by decide)
         · intro h5
           refine ⟨(And.intro rfl (And.intro (show (0 : Int) ≤ (2 : Int) from (by decide)) (show (2 : Int) < (4 : Int) from (by decide)))), (And.intro (show (0 : Int) ≤ (30 : Int) from (by decide)) (show (30 : Int) < ((Mw.mk (wT ck (0 : Int) (0 : Int) (0 : Int) (0 : Int))).ws.length : Int) from (show _ < ((34 : Nat) : Int) by decide))), ?_, ?_, ?_, ?_⟩
           · exact ⟨(by decide), (show _ < ((34 : Nat) : Int) by decide)⟩
           · exact ⟨(by decide), (show _ < ((34 : Nat) : Int) by decide)⟩
           · intro h6
             exact absurd ((show (at0 (wT ck (0 : Int) (0 : Int) (0 : Int) (0 : Int)) (30 : Int) != (0 : Int)) = false by kernel_rfl).symm.trans h6) (by decide)
           · intro h7
             refine ⟨(And.intro rfl (And.intro (show (0 : Int) ≤ (3 : Int) from (by decide)) (show (3 : Int) < (4 : Int) from (by decide)))), (And.intro (show (0 : Int) ≤ (32 : Int) from (by decide)) (show (32 : Int) < ((Mw.mk (wT ck (0 : Int) (0 : Int) (0 : Int) (0 : Int))).ws.length : Int) from (show _ < ((34 : Nat) : Int) by decide))), ?_, ?_, ?_, ?_⟩
             · exact ⟨(by decide), (show _ < ((34 : Nat) : Int) by decide)⟩
             · exact ⟨(by decide), (show _ < ((34 : Nat) : Int) by decide)⟩
             · intro h8
               exact absurd ((show (at0 (wT ck (0 : Int) (0 : Int) (0 : Int) (0 : Int)) (32 : Int) != (0 : Int)) = false by kernel_rfl).symm.trans h8) (by decide)
             · intro h9
               refine ⟨(And.intro rfl (And.intro (show (0 : Int) ≤ (0 : Int) from (by decide)) (show (0 : Int) < (3 : Int) from (by decide)))), (And.intro (show (0 : Int) ≤ (2 : Int) from (by decide)) (show (2 : Int) < ((Mw.mk (wT ck (0 : Int) (0 : Int) (0 : Int) (0 : Int))).ws.length : Int) from (show _ < ((34 : Nat) : Int) by decide))), ?_, ?_, ?_, ?_⟩
               · exact ⟨(by decide), (show _ < ((34 : Nat) : Int) by decide)⟩
               · exact ⟨(by decide), (show _ < ((34 : Nat) : Int) by decide)⟩
               · intro h10
                 exact absurd ((show (at0 (wT ck (0 : Int) (0 : Int) (0 : Int) (0 : Int)) (2 : Int) != (0 : Int)) = false by kernel_rfl).symm.trans h10) (by decide)
               · intro h11
                 refine ⟨(And.intro rfl (And.intro (show (0 : Int) ≤ (1 : Int) from (by decide)) (show (1 : Int) < (3 : Int) from (by decide)))), (And.intro (show (0 : Int) ≤ (3 : Int) from (by decide)) (show (3 : Int) < ((Mw.mk (wT ck (0 : Int) (0 : Int) (0 : Int) (0 : Int))).ws.length : Int) from (show _ < ((34 : Nat) : Int) by decide))), ?_, ?_, ?_, ?_⟩
                 · exact ⟨(by decide), (show _ < ((34 : Nat) : Int) by decide)⟩
                 · exact ⟨(by decide), (show _ < ((34 : Nat) : Int) by decide)⟩
                 · intro h12
                   exact absurd ((show (at0 (wT ck (0 : Int) (0 : Int) (0 : Int) (0 : Int)) (3 : Int) != (0 : Int)) = false by kernel_rfl).symm.trans h12) (by decide)
                 · intro h13
                   refine ⟨(And.intro rfl (And.intro (show (0 : Int) ≤ (2 : Int) from (by decide)) (show (2 : Int) < (3 : Int) from (by decide)))), (And.intro (show (0 : Int) ≤ (4 : Int) from (by decide)) (show (4 : Int) < ((Mw.mk (wT ck (0 : Int) (0 : Int) (0 : Int) (0 : Int))).ws.length : Int) from (show _ < ((34 : Nat) : Int) by decide))), ?_, ?_, ?_, ?_⟩
                   · exact ⟨(by decide), (show _ < ((34 : Nat) : Int) by decide)⟩
                   · exact ⟨(by decide), (show _ < ((34 : Nat) : Int) by decide)⟩
                   · intro h14
                     exact absurd ((show (at0 (wT ck (0 : Int) (0 : Int) (0 : Int) (0 : Int)) (4 : Int) != (0 : Int)) = false by kernel_rfl).symm.trans h14) (by decide)
                   · intro h15
                     refine ⟨?_, ?_⟩
                     · intro h16
                       replace h16 := eq_of_beq h16
                       first
                       | (exfalso; omega)
                       | (refine ⟨(And.intro rfl (And.intro rfl rfl)), (And.intro (show (0 : Int) ≤ (13 : Int) from (by decide)) (show (13 : Int) < ((Mw.mk (wT ck (0 : Int) (0 : Int) (0 : Int) (0 : Int))).ws.length : Int) from (show _ < ((34 : Nat) : Int) by decide))), ?_, ?_, ?_, ?_⟩
                          · exact ⟨(by decide), (show _ < ((34 : Nat) : Int) by decide)⟩
                          · exact ⟨(by decide), (show _ < ((34 : Nat) : Int) by decide)⟩
                          · intro h17
                            refine ⟨rfl, (And.intro (show (0 : Int) ≤ (1 : Int) from (by decide)) (show (1 : Int) < ((Mw.mk (wT ck (0 : Int) (0 : Int) (0 : Int) (0 : Int))).ws.length : Int) from (show _ < ((34 : Nat) : Int) by decide))), ?_, ?_, ?_, ?_⟩
                            · exact ⟨(by decide), (show _ < ((34 : Nat) : Int) by decide)⟩
                            · exact ⟨(by decide), (show _ < ((34 : Nat) : Int) by decide)⟩
                            · intro h18
                              exact ⟨(And.intro rfl (And.intro (show (0 : Int) ≤ (0 : Int) from (by decide)) (show (0 : Int) < (4 : Int) from (by decide)))), rfl, trivial⟩
                            · intro h19
                              exact absurd ((show (at0 (wT ck (0 : Int) (0 : Int) (0 : Int) (0 : Int)) (1 : Int) == (0 : Int)) = true by kernel_rfl).symm.trans h19) (by decide)
                          · intro h20
                            exact absurd ((show (at0 (wT ck (0 : Int) (0 : Int) (0 : Int) (0 : Int)) (13 : Int) == (0 : Int)) = true by kernel_rfl).symm.trans h20) (by decide))
                     · intro h21
                       rw [beq_self_eq_true] at h21
                       cases h21)
  · intro h22
    replace h22 := of_decide_eq_false h22
    first
    | (exfalso; omega)
    | (refine ⟨(And.intro rfl (And.intro (show (0 : Int) ≤ (0 : Int) from (by decide)) (show (0 : Int) < (4 : Int) from (by decide)))), (And.intro (show (0 : Int) ≤ (26 : Int) from (by decide)) (show (26 : Int) < ((Mw.mk (wT ck (0 : Int) (0 : Int) (0 : Int) (0 : Int))).ws.length : Int) from (show _ < ((34 : Nat) : Int) by decide))), ?_, ?_, ?_, ?_⟩
       · exact ⟨(by decide), (show _ < ((34 : Nat) : Int) by decide)⟩
       · exact ⟨(by decide), (show _ < ((34 : Nat) : Int) by decide)⟩
       · intro h23
         exact absurd ((show (at0 (wT ck (0 : Int) (0 : Int) (0 : Int) (0 : Int)) (26 : Int) != (0 : Int)) = false by kernel_rfl).symm.trans h23) (by decide)
       · intro h24
         refine ⟨(And.intro rfl (And.intro (show (0 : Int) ≤ (1 : Int) from (by decide)) (show (1 : Int) < (4 : Int) from (by decide)))), (And.intro (show (0 : Int) ≤ (28 : Int) from (by decide)) (show (28 : Int) < ((Mw.mk (wT ck (0 : Int) (0 : Int) (0 : Int) (0 : Int))).ws.length : Int) from (show _ < ((34 : Nat) : Int) by decide))), ?_, ?_, ?_, ?_⟩
         · exact ⟨(by decide), (show _ < ((34 : Nat) : Int) by decide)⟩
         · exact ⟨(by decide), (show _ < ((34 : Nat) : Int) by decide)⟩
         · intro h25
           exact absurd ((show (at0 (wT ck (0 : Int) (0 : Int) (0 : Int) (0 : Int)) (28 : Int) != (0 : Int)) = false by kernel_rfl).symm.trans h25) (by decide)
         · intro h26
           refine ⟨(And.intro rfl (And.intro (show (0 : Int) ≤ (2 : Int) from (by decide)) (show (2 : Int) < (4 : Int) from (by decide)))), (And.intro (show (0 : Int) ≤ (30 : Int) from (by decide)) (show (30 : Int) < ((Mw.mk (wT ck (0 : Int) (0 : Int) (0 : Int) (0 : Int))).ws.length : Int) from (show _ < ((34 : Nat) : Int) by decide))), ?_, ?_, ?_, ?_⟩
           · exact ⟨(by decide), (show _ < ((34 : Nat) : Int) by decide)⟩
           · exact ⟨(by decide), (show _ < ((34 : Nat) : Int) by decide)⟩
           · intro h27
             exact absurd ((show (at0 (wT ck (0 : Int) (0 : Int) (0 : Int) (0 : Int)) (30 : Int) != (0 : Int)) = false by kernel_rfl).symm.trans h27) (by decide)
           · intro h28
             refine ⟨(And.intro rfl (And.intro (show (0 : Int) ≤ (3 : Int) from (by decide)) (show (3 : Int) < (4 : Int) from (by decide)))), (And.intro (show (0 : Int) ≤ (32 : Int) from (by decide)) (show (32 : Int) < ((Mw.mk (wT ck (0 : Int) (0 : Int) (0 : Int) (0 : Int))).ws.length : Int) from (show _ < ((34 : Nat) : Int) by decide))), ?_, ?_, ?_, ?_⟩
             · exact ⟨(by decide), (show _ < ((34 : Nat) : Int) by decide)⟩
             · exact ⟨(by decide), (show _ < ((34 : Nat) : Int) by decide)⟩
             · intro h29
               exact absurd ((show (at0 (wT ck (0 : Int) (0 : Int) (0 : Int) (0 : Int)) (32 : Int) != (0 : Int)) = false by kernel_rfl).symm.trans h29) (by decide)
             · intro h30
               refine ⟨(And.intro rfl (And.intro (show (0 : Int) ≤ (0 : Int) from (by decide)) (show (0 : Int) < (3 : Int) from (by decide)))), (And.intro (show (0 : Int) ≤ (2 : Int) from (by decide)) (show (2 : Int) < ((Mw.mk (wT ck (0 : Int) (0 : Int) (0 : Int) (0 : Int))).ws.length : Int) from (show _ < ((34 : Nat) : Int) by decide))), ?_, ?_, ?_, ?_⟩
               · exact ⟨(by decide), (show _ < ((34 : Nat) : Int) by decide)⟩
               · exact ⟨(by decide), (show _ < ((34 : Nat) : Int) by decide)⟩
               · intro h31
                 exact absurd ((show (at0 (wT ck (0 : Int) (0 : Int) (0 : Int) (0 : Int)) (2 : Int) != (0 : Int)) = false by kernel_rfl).symm.trans h31) (by decide)
               · intro h32
                 refine ⟨(And.intro rfl (And.intro (show (0 : Int) ≤ (1 : Int) from (by decide)) (show (1 : Int) < (3 : Int) from (by decide)))), (And.intro (show (0 : Int) ≤ (3 : Int) from (by decide)) (show (3 : Int) < ((Mw.mk (wT ck (0 : Int) (0 : Int) (0 : Int) (0 : Int))).ws.length : Int) from (show _ < ((34 : Nat) : Int) by decide))), ?_, ?_, ?_, ?_⟩
                 · exact ⟨(by decide), (show _ < ((34 : Nat) : Int) by decide)⟩
                 · exact ⟨(by decide), (show _ < ((34 : Nat) : Int) by decide)⟩
                 · intro h33
                   exact absurd ((show (at0 (wT ck (0 : Int) (0 : Int) (0 : Int) (0 : Int)) (3 : Int) != (0 : Int)) = false by kernel_rfl).symm.trans h33) (by decide)
                 · intro h34
                   refine ⟨(And.intro rfl (And.intro (show (0 : Int) ≤ (2 : Int) from (by decide)) (show (2 : Int) < (3 : Int) from (by decide)))), (And.intro (show (0 : Int) ≤ (4 : Int) from (by decide)) (show (4 : Int) < ((Mw.mk (wT ck (0 : Int) (0 : Int) (0 : Int) (0 : Int))).ws.length : Int) from (show _ < ((34 : Nat) : Int) by decide))), ?_, ?_, ?_, ?_⟩
                   · exact ⟨(by decide), (show _ < ((34 : Nat) : Int) by decide)⟩
                   · exact ⟨(by decide), (show _ < ((34 : Nat) : Int) by decide)⟩
                   · intro h35
                     exact absurd ((show (at0 (wT ck (0 : Int) (0 : Int) (0 : Int) (0 : Int)) (4 : Int) != (0 : Int)) = false by kernel_rfl).symm.trans h35) (by decide)
                   · intro h36
                     refine ⟨?_, ?_⟩
                     · intro h37
                       replace h37 := eq_of_beq h37
                       first
                       | (exfalso; omega)
                       | (refine ⟨(And.intro rfl (And.intro rfl rfl)), (And.intro (show (0 : Int) ≤ (13 : Int) from (by decide)) (show (13 : Int) < ((Mw.mk (wT ck (0 : Int) (0 : Int) (0 : Int) (0 : Int))).ws.length : Int) from (show _ < ((34 : Nat) : Int) by decide))), ?_, ?_, ?_, ?_⟩
                          · exact ⟨(by decide), (show _ < ((34 : Nat) : Int) by decide)⟩
                          · exact ⟨(by decide), (show _ < ((34 : Nat) : Int) by decide)⟩
                          · intro h38
                            refine ⟨rfl, (And.intro (show (0 : Int) ≤ (1 : Int) from (by decide)) (show (1 : Int) < ((Mw.mk (wT ck (0 : Int) (0 : Int) (0 : Int) (0 : Int))).ws.length : Int) from (show _ < ((34 : Nat) : Int) by decide))), ?_, ?_, ?_, ?_⟩
                            · exact ⟨(by decide), (show _ < ((34 : Nat) : Int) by decide)⟩
                            · exact ⟨(by decide), (show _ < ((34 : Nat) : Int) by decide)⟩
                            · intro h39
                              exact ⟨(And.intro rfl (And.intro (show (0 : Int) ≤ (0 : Int) from (by decide)) (show (0 : Int) < (4 : Int) from (by decide)))), rfl, trivial⟩
                            · intro h40
                              exact absurd ((show (at0 (wT ck (0 : Int) (0 : Int) (0 : Int) (0 : Int)) (1 : Int) == (0 : Int)) = true by kernel_rfl).symm.trans h40) (by decide)
                          · intro h41
                            exact absurd ((show (at0 (wT ck (0 : Int) (0 : Int) (0 : Int) (0 : Int)) (13 : Int) == (0 : Int)) = true by kernel_rfl).symm.trans h41) (by decide))
                     · intro h42
                       rw [beq_self_eq_true] at h42
                       cases h42)
end Go.Proofs.Ytmjjljngaefpaaa

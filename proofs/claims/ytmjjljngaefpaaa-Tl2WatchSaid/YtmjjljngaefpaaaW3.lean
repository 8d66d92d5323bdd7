/- Tl2Watch: its loops, from each state. -/
import Derived.Test.YtmjjljngaefpaaaWf
namespace Go.Proofs.Ytmjjljngaefpaaa
open Go.RowKit Go.Am Go.Sy
set_option linter.unusedVariables false
set_option linter.unusedSimpArgs false
variable (l p : List Op) (cl w : Int) (n i : Nat) (rd rs ws : List Wo) (xi : Nat) (a c bk value steps asked : Int) (W rows : List Int)
theorem wa_1A : Go.Sy.Tree.holds (cW l p cl w 19 (cut1 w (shA p 0) (ob0 p)) ⟨n, i, rd, rs, ws, xi, a, c, bk, value, steps, asked, W, rows⟩) = ( (decide ((↑n : Int) < IntKind.i64.wrap ((IntKind.u64.wrap w).tmod 60)) = true
 → ∃ (s : (dA p).St), p = p ∧ rd = s.rd ∧ rs = s.rs ∧ ws = s.ws ∧ wV (0 : Int) 0 0 0 0 0 = wV (↑s.n : Int) 0 0 0 0 0 ∧ wat = wat ∧ Z39 (steps = s.steps ∧ Q 32 ∧ filtT ws = filtT s.ws ∧ asked = s.asked ∧ Z40 (c = s.c ∧ Z75
 (value = s.value ∧ Z5 ((↑i : Int) = (↑s.i : Int) ∧ Z46 ((dA p).I s ∧ (∀ (y : (oAB p).St), (oAB p).I s y → ∃ (s : US), w = w ∧ Z2 (wV (↑y.n : Int) 0 0 0 0 0 = wV (0 : Int) 0 0 0 0 0 ∧ y.steps = s.steps ∧ Z8 (y.c = s.c ∧
 Z9 (y.rs = s.rs ∧ Q 32 ∧ y.ws = s.ws ∧ filtT y.ws = filtT s.ws ∧ y.asked = s.asked ∧ wat = wat ∧ Z81 (y.a = s.a ∧ hashT y.a = hashT s.a ∧ Q 0 ∧ y.value = s.value ∧ Z5 (p = p ∧ (↑y.i : Int) = (↑s.i : Int) ∧ Z16 (y.rd =
 s.rd ∧ Q 9 ∧ IntKind.i64.wrap ((↑n : Int) + 1) = (↑s.n : Int) ∧ ((shB p (0 : Int)).I s ∧ s.n ≤ 60) ∧ (1000000 : Nat) - s.n < 1000000 - n ∧ True))))))) ∧ (∀ (y : (oAE p).St), (oAE p).I s y → ∃ (s : US), w = w ∧ Z2 (wRv
 (↑y.n : Int) 0 2 (List.take y.xi y.rows) = wRv (0 : Int) 0 2 (List.take s.xi s.rows) ∧ y.steps = s.steps ∧ Z8 (y.c = s.c ∧ Z9 (y.rs = s.rs ∧ Q 32 ∧ y.ws = s.ws ∧ filtT y.ws = filtT s.ws ∧ y.asked = s.asked ∧ wat = wat ∧
 Z82 ((↑y.xi : Int) = (↑s.xi : Int) ∧ y.value = s.value ∧ Z19 (y.bk = s.bk ∧ Z20 (y.rows = s.rows ∧ [] = takT (List.take s.xi s.rows) ∧ Qb true ∧ p = p ∧ (↑y.i : Int) = (↑s.i : Int) ∧ Z16 (y.rd = s.rd ∧ Q 9 ∧
 IntKind.i64.wrap ((↑n : Int) + 1) = (↑s.n : Int) ∧ ((shE p (0 : Int)).I s ∧ s.n ≤ 60) ∧ (1000000 : Nat) - s.n < 1000000 - n ∧ True)))))))) ∧ (∀ (y : (oAJ p).St), (oAJ p).I s y → ∃ (s : US), w = w ∧ Z2 (wRv (↑y.n : Int)
 y.a (2 : Int) y.rows = wRv (0 : Int) s.a (2 : Int) s.rows ∧ y.steps = s.steps ∧ Z8 (y.c = s.c ∧ Z9 (y.rs = s.rs ∧ Q 32 ∧ y.ws = s.ws ∧ filtT y.ws = filtT s.ws ∧ y.asked = s.asked ∧ wat = wat ∧ Z83 (y.value = s.value ∧
 y.a = s.a ∧ [] = s.rows ∧ [] = takT s.rows ∧ Qb true ∧ p = p ∧ (↑y.i : Int) = (↑s.i : Int) ∧ Z16 (y.rd = s.rd ∧ Q 9 ∧ IntKind.i64.wrap ((↑n : Int) + 1) = (↑s.n : Int) ∧ ((shJ p (0 : Int)).I s ∧ s.n ≤ 60) ∧ (1000000 :
 Nat) - s.n < 1000000 - n ∧ True)))))) ∧ True)))))) ∧ (decide ((↑n : Int) < IntKind.i64.wrap ((IntKind.u64.wrap w).tmod 60)) = false → badD.pre (Mw.mk (wV (0 : Int) 0 0 0 0 0), (9 : Int), ()) ∧ Bk 9 (wV (0 : Int) 0 0 0 0
 0) ∧ Bk 9 (wV (0 : Int) 0 0 0 0 0) ∧ Bk 9 (wV (0 : Int) 0 0 0 0 0) ∧ Bk 9 (wV (0 : Int) 0 0 0 0 0) ∧ ∃ (s : US), Z2 ((wV (0 : Int) 0 0 0 0 0).set (9 : Nat) (1 : Int) = wV (1 : Int) 0 0 0 0 0 ∧ IntKind.i64.wrap (steps +
 1) = s.steps ∧ Z8 (c = s.c ∧ Z9 (rs = s.rs ∧ Q 32 ∧ ws = s.ws ∧ filtT ws = filtT s.ws ∧ asked = s.asked ∧ wat = wat ∧ Z84 (value = s.value ∧ Z5 (p = p ∧ (↑i : Int) = (↑s.i : Int) ∧ Z46 (rd = s.rd ∧ Qb false ∧ (0 : Int) =
 (↑s.n : Int) ∧ ((shA p (1 : Int)).I s ∧ s.n + (shA p (1 : Int)).R s ≤ 200) ∧ (10000 : Nat) - s.n < 1000000 - n ∧ True)))))))) := by kernel_rfl
theorem wa_1A_ok (l p : List Op) (cl w : Int) (s : US) (hI : (cut1 w (shA p 0) (ob0 p)).I s) : Paid (cW l p cl w 19 (cut1 w (shA p 0) (ob0 p)) s) := by
  obtain ⟨n, i, rd, rs, ws, xi, a, c, bk, value, steps, asked, W, rows⟩ := s
  obtain ⟨hS, hn⟩ := hI
  have hn : n ≤ 60 := hn
  have hw60 := when_lt w
  refine ⟨?_⟩
  rw [wa_1A]
  refine ⟨?_, ?_⟩
  · intro h1
    replace h1 := of_decide_eq_true h1
    first
    | (exfalso; omega)
    | (refine ⟨⟨0, i, rd, rs, ws, xi, a, c, bk, value, steps, asked, W, rows⟩, ⟨rfl, rfl, rfl, rfl, rfl, rfl, t39 ⟨rfl, rfl, rfl, rfl, t40 ⟨rfl, t75 ⟨rfl, t5 ⟨rfl, t46 ⟨⟨hS, (show 0 ≤ 1 by decide)⟩, ?_, ?_, ?_, trivial⟩⟩⟩⟩⟩⟩⟩
       · intro y hy2_
         obtain ⟨_, hy1, hyn, hyR⟩ := hy2_
         have hyn : y.n = 0 := hyn
         have hyR : 59 + 5 * (10 - y.i) < 60 + 5 * (10 - i) := hyR
         exact ⟨⟨n + 1, y.i, y.rd, y.rs, y.ws, y.xi, y.a, y.c, y.bk, y.value, y.steps, y.asked, y.W, y.rows⟩, ⟨rfl, t2 ⟨(by rw [hyn]; rfl), rfl, t8 ⟨rfl, t9 ⟨rfl, rfl, rfl, rfl, rfl, rfl, t81 ⟨rfl, rfl, rfl, rfl, t5 ⟨rfl, rfl, t16 ⟨rfl, rfl, (wN (by omega)), ⟨hy1, (show (n + 1) ≤ (60 : Nat) by omega)⟩, (mN hn), trivial⟩⟩⟩⟩⟩⟩⟩⟩
       · intro y hy3_
         obtain ⟨_, hy1, hyn, hyR⟩ := hy3_
         have hyn : y.n = 0 := hyn
         have hyR : 55 - 2 * y.xi < 60 + 5 * (10 - i) := hyR
         exact ⟨⟨n + 1, y.i, y.rd, y.rs, y.ws, y.xi, y.a, y.c, y.bk, y.value, y.steps, y.asked, y.W, y.rows⟩, ⟨rfl, t2 ⟨(by rw [hyn]; rfl), rfl, t8 ⟨rfl, t9 ⟨rfl, rfl, rfl, rfl, rfl, rfl, t82 ⟨rfl, rfl, t19 ⟨rfl, t20 ⟨rfl, (lat_tak hy1.2).symm, rfl, rfl, rfl, t16 ⟨rfl, rfl, (wN (by omega)), ⟨hy1.1, (show (n + 1) ≤ (60 : Nat) by omega)⟩, (mN hn), trivial⟩⟩⟩⟩⟩⟩⟩⟩⟩
       · intro y hy4_
         obtain ⟨_, hy1, hyn, hyR⟩ := hy4_
         have hyn : y.n = 0 := hyn
         have hyR : 30 < 60 + 5 * (10 - i) := hyR
         have hyr : y.rows = [] := by rw [show y.rows = rowsT (y.ws.map (·.pl)) from hy1.1.2.2.1, show y.ws = [] from hy1.2]; rfl
         exact ⟨⟨n + 1, y.i, y.rd, y.rs, y.ws, y.xi, y.a, y.c, y.bk, y.value, y.steps, y.asked, y.W, y.rows⟩, ⟨rfl, t2 ⟨(by rw [hyn]; rfl), rfl, t8 ⟨rfl, t9 ⟨rfl, rfl, rfl, rfl, rfl, rfl, t83 ⟨rfl, rfl, hyr.symm, (by rw [hyr]; rfl), rfl, rfl, rfl, t16 ⟨rfl, rfl, (wN (by omega)), ⟨hy1.1, (show (n + 1) ≤ (60 : Nat) by omega)⟩, (mN hn), trivial⟩⟩⟩⟩⟩⟩⟩)
  · intro h5
    replace h5 := of_decide_eq_false h5
    first
    | (exfalso; omega)
    | (refine ⟨(And.intro (show (0 : Int) ≤ (9 : Int) from (by decide)) (show (9 : Int) < ((Mw.mk (wV (0 : Int) (0 : Int) (0 : Int) (0 : Int) (0 : Int) (0 : Int))).ws.length : Int) from (show (9 : Int) < ((34 : Nat) : Int) by decide))), ?_, ?_, ?_, ?_, ?_⟩
       · exact ⟨(by decide), (show (9 : Int) < ((34 : Nat) : Int) by decide)⟩
       · exact ⟨(by decide), (show (9 : Int) < ((34 : Nat) : Int) by decide)⟩
       · exact ⟨(by decide), (show (9 : Int) < ((34 : Nat) : Int) by decide)⟩
       · exact ⟨(by decide), (show (9 : Int) < ((34 : Nat) : Int) by decide)⟩
       · exact ⟨⟨0, i, rd, rs, ws, xi, a, c, bk, value, IntKind.i64.wrap (steps + (1 : Int)), asked, W, rows⟩, (t2 ⟨rfl, rfl, t8 ⟨rfl, t9 ⟨rfl, rfl, rfl, rfl, rfl, rfl, t84 ⟨rfl, t5 ⟨rfl, rfl, t46 ⟨rfl, rfl, rfl, ⟨hS, (show 0 + (60 + 5 * (10 - i)) ≤ 200 by omega)⟩, (show (10000 : Nat) - (0) < (1000000 : Nat) - n by omega), trivial⟩⟩⟩⟩⟩⟩)⟩)
theorem wa_1B : Go.Sy.Tree.holds (cW l p cl w 19 (cut1 w (shB p 0) (ob0 p)) ⟨n, i, rd, rs, ws, xi, a, c, bk, value, steps, asked, W, rows⟩) = ( (decide ((↑n : Int) < IntKind.i64.wrap ((IntKind.u64.wrap w).tmod 60)) = true
 → ∃ (s : (dB p).St), p = p ∧ rd = s.rd ∧ rs = s.rs ∧ ws = s.ws ∧ wV (0 : Int) 0 0 0 0 0 = wV (↑s.n : Int) 0 0 0 0 0 ∧ wat = wat ∧ Z39 (steps = s.steps ∧ Q 32 ∧ filtT ws = filtT s.ws ∧ asked = s.asked ∧ Z40 (c = s.c ∧ Z85
 (a = s.a ∧ hashT a = hashT s.a ∧ Q 0 ∧ value = s.value ∧ Z5 ((↑i : Int) = (↑s.i : Int) ∧ Z16 ((dB p).I s ∧ (∀ (y : (oBC p).St), (oBC p).I s y → ∃ (s : US), w = w ∧ Z2 (wV (↑y.n : Int) 0 0 0 0 0 = wV (0 : Int) 0 0 0 0 0 ∧
 y.steps = s.steps ∧ Z8 (y.c = s.c ∧ Z9 (y.rs = s.rs ∧ Q 32 ∧ y.ws = s.ws ∧ filtT y.ws = filtT s.ws ∧ y.asked = s.asked ∧ wat = wat ∧ Z86 (y.a = s.a ∧ hashT y.a = hashT s.a ∧ Z19 (y.value = s.value ∧ Z5 (p = p ∧ (↑y.i :
 Int) = (↑s.i : Int) ∧ Z16 (y.rd = s.rd ∧ Q 9 ∧ IntKind.i64.wrap ((↑n : Int) + 1) = (↑s.n : Int) ∧ ((shC p (0 : Int)).I s ∧ s.n ≤ 60) ∧ (1000000 : Nat) - s.n < 1000000 - n ∧ True)))))))) ∧ True)))))) ∧ (decide ((↑n : Int)
 < IntKind.i64.wrap ((IntKind.u64.wrap w).tmod 60)) = false → badD.pre (Mw.mk (wV (0 : Int) 0 0 0 0 0), (9 : Int), ()) ∧ Bk 9 (wV (0 : Int) 0 0 0 0 0) ∧ Bk 9 (wV (0 : Int) 0 0 0 0 0) ∧ Bk 9 (wV (0 : Int) 0 0 0 0 0) ∧ Bk 9
 (wV (0 : Int) 0 0 0 0 0) ∧ ∃ (s : US), Z2 ((wV (0 : Int) 0 0 0 0 0).set (9 : Nat) (1 : Int) = wV (1 : Int) 0 0 0 0 0 ∧ IntKind.i64.wrap (steps + 1) = s.steps ∧ Z8 (c = s.c ∧ Z9 (rs = s.rs ∧ Q 32 ∧ ws = s.ws ∧ filtT ws =
 filtT s.ws ∧ asked = s.asked ∧ wat = wat ∧ Z81 (a = s.a ∧ hashT a = hashT s.a ∧ Q 0 ∧ value = s.value ∧ Z5 (p = p ∧ (↑i : Int) = (↑s.i : Int) ∧ Z16 (rd = s.rd ∧ Qb false ∧ (0 : Int) = (↑s.n : Int) ∧ ((shB p (1 : Int)).I
 s ∧ s.n + (shB p (1 : Int)).R s ≤ 200) ∧ (10000 : Nat) - s.n < 1000000 - n ∧ True)))))))) := by kernel_rfl
theorem wa_1B_ok (l p : List Op) (cl w : Int) (s : US) (hI : (cut1 w (shB p 0) (ob0 p)).I s) : Paid (cW l p cl w 19 (cut1 w (shB p 0) (ob0 p)) s) := by
  obtain ⟨n, i, rd, rs, ws, xi, a, c, bk, value, steps, asked, W, rows⟩ := s
  obtain ⟨hS, hn⟩ := hI
  have hn : n ≤ 60 := hn
  have hw60 := when_lt w
  refine ⟨?_⟩
  rw [wa_1B]
  refine ⟨?_, ?_⟩
  · intro h1
    replace h1 := of_decide_eq_true h1
    first
    | (exfalso; omega)
    | (refine ⟨⟨0, i, rd, rs, ws, xi, a, c, bk, value, steps, asked, W, rows⟩, ⟨rfl, rfl, rfl, rfl, rfl, rfl, t39 ⟨rfl, rfl, rfl, rfl, t40 ⟨rfl, t85 ⟨rfl, rfl, rfl, rfl, t5 ⟨rfl, t16 ⟨⟨hS, (show 0 ≤ 1 by decide)⟩, ?_, trivial⟩⟩⟩⟩⟩⟩⟩
       intro y hy2_
       obtain ⟨_, hy1, hyn, hyR⟩ := hy2_
       have hyn : y.n = 0 := hyn
       have hyR : 58 + 5 * (10 - y.i) < 59 + 5 * (10 - i) := hyR
       exact ⟨⟨n + 1, y.i, y.rd, y.rs, y.ws, y.xi, y.a, y.c, y.bk, y.value, y.steps, y.asked, y.W, y.rows⟩, ⟨rfl, t2 ⟨(by rw [hyn]; rfl), rfl, t8 ⟨rfl, t9 ⟨rfl, rfl, rfl, rfl, rfl, rfl, t86 ⟨rfl, rfl, t19 ⟨rfl, t5 ⟨rfl, rfl, t16 ⟨rfl, rfl, (wN (by omega)), ⟨hy1, (show (n + 1) ≤ (60 : Nat) by omega)⟩, (mN hn), trivial⟩⟩⟩⟩⟩⟩⟩⟩⟩)
  · intro h3
    replace h3 := of_decide_eq_false h3
    first
    | (exfalso; omega)
    | (refine ⟨(And.intro (show (0 : Int) ≤ (9 : Int) from (by decide)) (show (9 : Int) < ((Mw.mk (wV (0 : Int) (0 : Int) (0 : Int) (0 : Int) (0 : Int) (0 : Int))).ws.length : Int) from (show (9 : Int) < ((34 : Nat) : Int) by decide))), ?_, ?_, ?_, ?_, ?_⟩
       · exact ⟨(by decide), (show (9 : Int) < ((34 : Nat) : Int) by decide)⟩
       · exact ⟨(by decide), (show (9 : Int) < ((34 : Nat) : Int) by decide)⟩
       · exact ⟨(by decide), (show (9 : Int) < ((34 : Nat) : Int) by decide)⟩
       · exact ⟨(by decide), (show (9 : Int) < ((34 : Nat) : Int) by decide)⟩
       · exact ⟨⟨0, i, rd, rs, ws, xi, a, c, bk, value, IntKind.i64.wrap (steps + (1 : Int)), asked, W, rows⟩, (t2 ⟨rfl, rfl, t8 ⟨rfl, t9 ⟨rfl, rfl, rfl, rfl, rfl, rfl, t81 ⟨rfl, rfl, rfl, rfl, t5 ⟨rfl, rfl, t16 ⟨rfl, rfl, rfl, ⟨hS, (show 0 + (59 + 5 * (10 - i)) ≤ 200 by omega)⟩, (show (10000 : Nat) - (0) < (1000000 : Nat) - n by omega), trivial⟩⟩⟩⟩⟩⟩)⟩)
theorem wa_1C : Go.Sy.Tree.holds (cW l p cl w 19 (cut1 w (shC p 0) (ob0 p)) ⟨n, i, rd, rs, ws, xi, a, c, bk, value, steps, asked, W, rows⟩) = ( (decide ((↑n : Int) < IntKind.i64.wrap ((IntKind.u64.wrap w).tmod 60)) = true
 → ∃ (s : (dC p).St), p = p ∧ rd = s.rd ∧ rs = s.rs ∧ ws = s.ws ∧ wV (0 : Int) 0 0 0 0 0 = wV (↑s.n : Int) 0 0 0 0 0 ∧ wat = wat ∧ Z39 (steps = s.steps ∧ Q 32 ∧ filtT ws = filtT s.ws ∧ asked = s.asked ∧ Z40 (c = s.c ∧ Z87
 (a = s.a ∧ hashT a = hashT s.a ∧ Z19 (value = s.value ∧ Z5 ((↑i : Int) = (↑s.i : Int) ∧ Z16 ((dC p).I s ∧ (∀ (y : (oCD p).St), (oCD p).I s y → ∃ (s : US), w = w ∧ Z2 (wV (↑y.n : Int) 0 0 0 0 0 = wV (0 : Int) 0 0 0 0 0 ∧
 y.steps = s.steps ∧ Z8 (y.c = s.c ∧ Z9 (y.rs = s.rs ∧ Q 32 ∧ y.ws = s.ws ∧ filtT y.ws = filtT s.ws ∧ y.asked = s.asked ∧ wat = wat ∧ Z88 (y.a = s.a ∧ hashT y.a = hashT s.a ∧ Q 0 ∧ y.value = s.value ∧ Z5 (p = p ∧ (↑y.i :
 Int) = (↑s.i : Int) ∧ Z16 (y.rd = s.rd ∧ Q 9 ∧ IntKind.i64.wrap ((↑n : Int) + 1) = (↑s.n : Int) ∧ ((shD p (0 : Int)).I s ∧ s.n ≤ 60) ∧ (1000000 : Nat) - s.n < 1000000 - n ∧ True))))))) ∧ True))))))) ∧ (decide ((↑n : Int)
 < IntKind.i64.wrap ((IntKind.u64.wrap w).tmod 60)) = false → badD.pre (Mw.mk (wV (0 : Int) 0 0 0 0 0), (9 : Int), ()) ∧ Bk 9 (wV (0 : Int) 0 0 0 0 0) ∧ Bk 9 (wV (0 : Int) 0 0 0 0 0) ∧ Bk 9 (wV (0 : Int) 0 0 0 0 0) ∧ Bk 9
 (wV (0 : Int) 0 0 0 0 0) ∧ ∃ (s : US), Z2 ((wV (0 : Int) 0 0 0 0 0).set (9 : Nat) (1 : Int) = wV (1 : Int) 0 0 0 0 0 ∧ IntKind.i64.wrap (steps + 1) = s.steps ∧ Z8 (c = s.c ∧ Z9 (rs = s.rs ∧ Q 32 ∧ ws = s.ws ∧ filtT ws =
 filtT s.ws ∧ asked = s.asked ∧ wat = wat ∧ Z86 (a = s.a ∧ hashT a = hashT s.a ∧ Z19 (value = s.value ∧ Z5 (p = p ∧ (↑i : Int) = (↑s.i : Int) ∧ Z16 (rd = s.rd ∧ Qb false ∧ (0 : Int) = (↑s.n : Int) ∧ ((shC p (1 : Int)).I s
 ∧ s.n + (shC p (1 : Int)).R s ≤ 200) ∧ (10000 : Nat) - s.n < 1000000 - n ∧ True))))))))) := by kernel_rfl
theorem wa_1C_ok (l p : List Op) (cl w : Int) (s : US) (hI : (cut1 w (shC p 0) (ob0 p)).I s) : Paid (cW l p cl w 19 (cut1 w (shC p 0) (ob0 p)) s) := by
  obtain ⟨n, i, rd, rs, ws, xi, a, c, bk, value, steps, asked, W, rows⟩ := s
  obtain ⟨hS, hn⟩ := hI
  have hn : n ≤ 60 := hn
  have hw60 := when_lt w
  refine ⟨?_⟩
  rw [wa_1C]
  refine ⟨?_, ?_⟩
  · intro h1
    replace h1 := of_decide_eq_true h1
    first
    | (exfalso; omega)
    | (refine ⟨⟨0, i, rd, rs, ws, xi, a, c, bk, value, steps, asked, W, rows⟩, ⟨rfl, rfl, rfl, rfl, rfl, rfl, t39 ⟨rfl, rfl, rfl, rfl, t40 ⟨rfl, t87 ⟨rfl, rfl, t19 ⟨rfl, t5 ⟨rfl, t16 ⟨⟨hS, (show 0 ≤ 1 by decide)⟩, ?_, trivial⟩⟩⟩⟩⟩⟩⟩⟩
       intro y hy2_
       obtain ⟨_, hy1, hyn, hyR⟩ := hy2_
       have hyn : y.n = 0 := hyn
       have hyR : 57 + 5 * (10 - y.i) < 58 + 5 * (10 - i) := hyR
       exact ⟨⟨n + 1, y.i, y.rd, y.rs, y.ws, y.xi, y.a, y.c, y.bk, y.value, y.steps, y.asked, y.W, y.rows⟩, ⟨rfl, t2 ⟨(by rw [hyn]; rfl), rfl, t8 ⟨rfl, t9 ⟨rfl, rfl, rfl, rfl, rfl, rfl, t88 ⟨rfl, rfl, rfl, rfl, t5 ⟨rfl, rfl, t16 ⟨rfl, rfl, (wN (by omega)), ⟨hy1, (show (n + 1) ≤ (60 : Nat) by omega)⟩, (mN hn), trivial⟩⟩⟩⟩⟩⟩⟩⟩)
  · intro h3
    replace h3 := of_decide_eq_false h3
    first
    | (exfalso; omega)
    | (refine ⟨(And.intro (show (0 : Int) ≤ (9 : Int) from (by decide)) (show (9 : Int) < ((Mw.mk (wV (0 : Int) (0 : Int) (0 : Int) (0 : Int) (0 : Int) (0 : Int))).ws.length : Int) from (show (9 : Int) < ((34 : Nat) : Int) by decide))), ?_, ?_, ?_, ?_, ?_⟩
       · exact ⟨(by decide), (show (9 : Int) < ((34 : Nat) : Int) by decide)⟩
       · exact ⟨(by decide), (show (9 : Int) < ((34 : Nat) : Int) by decide)⟩
       · exact ⟨(by decide), (show (9 : Int) < ((34 : Nat) : Int) by decide)⟩
       · exact ⟨(by decide), (show (9 : Int) < ((34 : Nat) : Int) by decide)⟩
       · exact ⟨⟨0, i, rd, rs, ws, xi, a, c, bk, value, IntKind.i64.wrap (steps + (1 : Int)), asked, W, rows⟩, (t2 ⟨rfl, rfl, t8 ⟨rfl, t9 ⟨rfl, rfl, rfl, rfl, rfl, rfl, t86 ⟨rfl, rfl, t19 ⟨rfl, t5 ⟨rfl, rfl, t16 ⟨rfl, rfl, rfl, ⟨hS, (show 0 + (58 + 5 * (10 - i)) ≤ 200 by omega)⟩, (show (10000 : Nat) - (0) < (1000000 : Nat) - n by omega), trivial⟩⟩⟩⟩⟩⟩⟩)⟩)
theorem wa_1D : Go.Sy.Tree.holds (cW l p cl w 19 (cut1 w (shD p 0) (ob0 p)) ⟨n, i, rd, rs, ws, xi, a, c, bk, value, steps, asked, W, rows⟩) = ( (decide ((↑n : Int) < IntKind.i64.wrap ((IntKind.u64.wrap w).tmod 60)) = true
 → ∃ (s : (dD p).St), p = p ∧ rd = s.rd ∧ rs = s.rs ∧ ws = s.ws ∧ wV (0 : Int) 0 0 0 0 0 = wV (↑s.n : Int) 0 0 0 0 0 ∧ wat = wat ∧ Z39 (steps = s.steps ∧ Q 32 ∧ filtT ws = filtT s.ws ∧ asked = s.asked ∧ Z40 (c = s.c ∧ Z89
 (a = s.a ∧ hashT a = hashT s.a ∧ Q 0 ∧ value = s.value ∧ Z5 ((↑i : Int) = (↑s.i : Int) ∧ Z16 ((dD p).I s ∧ (∀ (y : (oDA p).St), (oDA p).I s y → ∃ (s : US), w = w ∧ Z2 (wV (↑y.n : Int) 0 0 0 0 0 = wV (0 : Int) 0 0 0 0 0 ∧
 y.steps = s.steps ∧ Z8 (y.c = s.c ∧ Z9 (y.rs = s.rs ∧ Q 32 ∧ y.ws = s.ws ∧ filtT y.ws = filtT s.ws ∧ y.asked = s.asked ∧ wat = wat ∧ Z84 (y.value = s.value ∧ Z5 (p = p ∧ (↑y.i : Int) = (↑s.i : Int) ∧ Z46 (y.rd = s.rd ∧ Q
 9 ∧ IntKind.i64.wrap ((↑n : Int) + 1) = (↑s.n : Int) ∧ ((shA p (0 : Int)).I s ∧ s.n ≤ 60) ∧ (1000000 : Nat) - s.n < 1000000 - n ∧ True))))))) ∧ (∀ (y : (oDQ p).St), (oDQ p).I s y → Stuck "sel: elsewhere") ∧ True)))))) ∧
 (decide ((↑n : Int) < IntKind.i64.wrap ((IntKind.u64.wrap w).tmod 60)) = false → badD.pre (Mw.mk (wV (0 : Int) 0 0 0 0 0), (9 : Int), ()) ∧ Bk 9 (wV (0 : Int) 0 0 0 0 0) ∧ Bk 9 (wV (0 : Int) 0 0 0 0 0) ∧ Bk 9 (wV (0 :
 Int) 0 0 0 0 0) ∧ Bk 9 (wV (0 : Int) 0 0 0 0 0) ∧ ∃ (s : US), Z2 ((wV (0 : Int) 0 0 0 0 0).set (9 : Nat) (1 : Int) = wV (1 : Int) 0 0 0 0 0 ∧ IntKind.i64.wrap (steps + 1) = s.steps ∧ Z8 (c = s.c ∧ Z9 (rs = s.rs ∧ Q 32 ∧
 ws = s.ws ∧ filtT ws = filtT s.ws ∧ asked = s.asked ∧ wat = wat ∧ Z88 (a = s.a ∧ hashT a = hashT s.a ∧ Q 0 ∧ value = s.value ∧ Z5 (p = p ∧ (↑i : Int) = (↑s.i : Int) ∧ Z16 (rd = s.rd ∧ Qb false ∧ (0 : Int) = (↑s.n : Int)
 ∧ ((shD p (1 : Int)).I s ∧ s.n + (shD p (1 : Int)).R s ≤ 200) ∧ (10000 : Nat) - s.n < 1000000 - n ∧ True)))))))) := by kernel_rfl
theorem wa_1D_ok (l p : List Op) (cl w : Int) (s : US) (hI : (cut1 w (shD p 0) (ob0 p)).I s) : Paid (cW l p cl w 19 (cut1 w (shD p 0) (ob0 p)) s) := by
  obtain ⟨n, i, rd, rs, ws, xi, a, c, bk, value, steps, asked, W, rows⟩ := s
  obtain ⟨hS, hn⟩ := hI
  have hn : n ≤ 60 := hn
  have hw60 := when_lt w
  refine ⟨?_⟩
  rw [wa_1D]
  refine ⟨?_, ?_⟩
  · intro h1
    replace h1 := of_decide_eq_true h1
    first
    | (exfalso; omega)
    | (refine ⟨⟨0, i, rd, rs, ws, xi, a, c, bk, value, steps, asked, W, rows⟩, ⟨rfl, rfl, rfl, rfl, rfl, rfl, t39 ⟨rfl, rfl, rfl, rfl, t40 ⟨rfl, t89 ⟨rfl, rfl, rfl, rfl, t5 ⟨rfl, t16 ⟨⟨hS, (show 0 ≤ 1 by decide)⟩, ?_, ?_, trivial⟩⟩⟩⟩⟩⟩⟩
       · intro y hy2_
         obtain ⟨_, hy1, hyn, hyR⟩ := hy2_
         have hyn : y.n = 0 := hyn
         have hyR : 60 + 5 * (10 - y.i) < 57 + 5 * (10 - i) := hyR
         exact ⟨⟨n + 1, y.i, y.rd, y.rs, y.ws, y.xi, y.a, y.c, y.bk, y.value, y.steps, y.asked, y.W, y.rows⟩, ⟨rfl, t2 ⟨(by rw [hyn]; rfl), rfl, t8 ⟨rfl, t9 ⟨rfl, rfl, rfl, rfl, rfl, rfl, t84 ⟨rfl, t5 ⟨rfl, rfl, t46 ⟨rfl, rfl, (wN (by omega)), ⟨hy1, (show (n + 1) ≤ (60 : Nat) by omega)⟩, (mN hn), trivial⟩⟩⟩⟩⟩⟩⟩⟩
       · intro y hy3_
         exact absurd (show (0 : Nat) = 1 from hy3_.1) (by decide))
  · intro h4
    replace h4 := of_decide_eq_false h4
    first
    | (exfalso; omega)
    | (refine ⟨(And.intro (show (0 : Int) ≤ (9 : Int) from (by decide)) (show (9 : Int) < ((Mw.mk (wV (0 : Int) (0 : Int) (0 : Int) (0 : Int) (0 : Int) (0 : Int))).ws.length : Int) from (show (9 : Int) < ((34 : Nat) : Int) by decide))), ?_, ?_, ?_, ?_, ?_⟩
       · exact ⟨(by decide), (show (9 : Int) < ((34 : Nat) : Int) by decide)⟩
       · exact ⟨(by decide), (show (9 : Int) < ((34 : Nat) : Int) by decide)⟩
       · exact ⟨(by decide), (show (9 : Int) < ((34 : Nat) : Int) by decide)⟩
       · exact ⟨(by decide), (show (9 : Int) < ((34 : Nat) : Int) by decide)⟩
       · exact ⟨⟨0, i, rd, rs, ws, xi, a, c, bk, value, IntKind.i64.wrap (steps + (1 : Int)), asked, W, rows⟩, (t2 ⟨rfl, rfl, t8 ⟨rfl, t9 ⟨rfl, rfl, rfl, rfl, rfl, rfl, t88 ⟨rfl, rfl, rfl, rfl, t5 ⟨rfl, rfl, t16 ⟨rfl, rfl, rfl, ⟨hS, (show 0 + (57 + 5 * (10 - i)) ≤ 200 by omega)⟩, (show (10000 : Nat) - (0) < (1000000 : Nat) - n by omega), trivial⟩⟩⟩⟩⟩⟩)⟩)
theorem wa_1E : Go.Sy.Tree.holds (cW l p cl w 19 (cut1 w (shE p 0) (obT p)) ⟨n, i, rd, rs, ws, xi, a, c, bk, value, steps, asked, W, rows⟩) = ( (decide ((↑n : Int) < IntKind.i64.wrap ((IntKind.u64.wrap w).tmod 60)) = true
 → ∃ (s : (dE p).St), p = p ∧ rd = s.rd ∧ rs = s.rs ∧ ws = s.ws ∧ wRv (0 : Int) 0 2 (List.take xi rows) = wRv (↑s.n : Int) 0 2 (List.take s.xi s.rows) ∧ wat = wat ∧ rows = s.rows ∧ takT (List.take xi rows) = takT
 (List.take s.xi s.rows) ∧ Z39 (steps = s.steps ∧ Q 32 ∧ filtT ws = filtT s.ws ∧ asked = s.asked ∧ Z40 (c = s.c ∧ Z90 ((↑xi : Int) = (↑s.xi : Int) ∧ value = s.value ∧ Z19 (bk = s.bk ∧ Z53 ((↑i : Int) = (↑s.i : Int) ∧ Z16
 ((dE p).I s ∧ (∀ (y : (oEF p).St), (oEF p).I s y → ∃ (s : US), w = w ∧ Z2 (wRv (↑y.n : Int) 0 2 (List.take y.xi y.rows) = wRv (0 : Int) 0 2 (List.take s.xi s.rows) ∧ y.steps = s.steps ∧ Z8 (y.c = s.c ∧ Z9 (y.rs = s.rs ∧
 Q 32 ∧ y.ws = s.ws ∧ filtT y.ws = filtT s.ws ∧ y.asked = s.asked ∧ wat = wat ∧ Z91 ((↑y.xi : Int) = (↑s.xi : Int) ∧ Q 0 ∧ y.value = s.value ∧ Z19 (y.bk = s.bk ∧ Z20 (y.rows = s.rows ∧ takT (List.take y.xi y.rows) = takT
 (List.take s.xi s.rows) ∧ Qb true ∧ p = p ∧ (↑y.i : Int) = (↑s.i : Int) ∧ Z16 (y.rd = s.rd ∧ Q 9 ∧ IntKind.i64.wrap ((↑n : Int) + 1) = (↑s.n : Int) ∧ ((shF p (0 : Int)).I s ∧ s.n ≤ 60) ∧ (1000000 : Nat) - s.n < 1000000 -
 n ∧ True)))))))) ∧ True))))))) ∧ (decide ((↑n : Int) < IntKind.i64.wrap ((IntKind.u64.wrap w).tmod 60)) = false → badD.pre (Mw.mk (wRv (0 : Int) 0 2 (List.take xi rows)), (9 : Int), ()) ∧ Bk 9 (wRv (0 : Int) 0 2
 (List.take xi rows)) ∧ Bk 9 (wRv (0 : Int) 0 2 (List.take xi rows)) ∧ Bk 9 (wRv (0 : Int) 0 2 (List.take xi rows)) ∧ Bk 9 (wRv (0 : Int) 0 2 (List.take xi rows)) ∧ ∃ (s : US), Z2 ((wRv (0 : Int) 0 2 (List.take xi
 rows)).set (9 : Nat) (1 : Int) = wRv (1 : Int) 0 2 (List.take s.xi s.rows) ∧ IntKind.i64.wrap (steps + 1) = s.steps ∧ Z8 (c = s.c ∧ Z9 (rs = s.rs ∧ Q 32 ∧ ws = s.ws ∧ filtT ws = filtT s.ws ∧ asked = s.asked ∧ wat = wat ∧
 Z82 ((↑xi : Int) = (↑s.xi : Int) ∧ value = s.value ∧ Z19 (bk = s.bk ∧ Z20 (rows = s.rows ∧ takT (List.take xi rows) = takT (List.take s.xi s.rows) ∧ Qb true ∧ p = p ∧ (↑i : Int) = (↑s.i : Int) ∧ Z16 (rd = s.rd ∧ Qb false
 ∧ (0 : Int) = (↑s.n : Int) ∧ ((shE p (1 : Int)).I s ∧ s.n + (shE p (1 : Int)).R s ≤ 200) ∧ (10000 : Nat) - s.n < 1000000 - n ∧ True))))))))) := by kernel_rfl
theorem wa_1E_ok (l p : List Op) (cl w : Int) (s : US) (hI : (cut1 w (shE p 0) (obT p)).I s) : Paid (cW l p cl w 19 (cut1 w (shE p 0) (obT p)) s) := by
  obtain ⟨n, i, rd, rs, ws, xi, a, c, bk, value, steps, asked, W, rows⟩ := s
  obtain ⟨hS, hn⟩ := hI
  have hn : n ≤ 60 := hn
  have hw60 := when_lt w
  refine ⟨?_⟩
  rw [wa_1E]
  refine ⟨?_, ?_⟩
  · intro h1
    replace h1 := of_decide_eq_true h1
    first
    | (exfalso; omega)
    | (refine ⟨⟨0, i, rd, rs, ws, xi, a, c, bk, value, steps, asked, W, rows⟩, ⟨rfl, rfl, rfl, rfl, rfl, rfl, rfl, rfl, t39 ⟨rfl, rfl, rfl, rfl, t40 ⟨rfl, t90 ⟨rfl, rfl, t19 ⟨rfl, t53 ⟨rfl, t16 ⟨⟨hS, (show 0 ≤ 1 by decide)⟩, ?_, trivial⟩⟩⟩⟩⟩⟩⟩⟩
       intro y hy2_
       obtain ⟨_, hy1, hyn, hyR⟩ := hy2_
       have hyn : y.n = 0 := hyn
       have hyR : 54 - 2 * y.xi < 55 - 2 * xi := hyR
       exact ⟨⟨n + 1, y.i, y.rd, y.rs, y.ws, y.xi, y.a, y.c, y.bk, y.value, y.steps, y.asked, y.W, y.rows⟩, ⟨rfl, t2 ⟨(by rw [hyn]; rfl), rfl, t8 ⟨rfl, t9 ⟨rfl, rfl, rfl, rfl, rfl, rfl, t91 ⟨rfl, rfl, rfl, t19 ⟨rfl, t20 ⟨rfl, rfl, rfl, rfl, rfl, t16 ⟨rfl, rfl, (wN (by omega)), ⟨hy1, (show (n + 1) ≤ (60 : Nat) by omega)⟩, (mN hn), trivial⟩⟩⟩⟩⟩⟩⟩⟩⟩)
  · intro h3
    replace h3 := of_decide_eq_false h3
    first
    | (exfalso; omega)
    | (refine ⟨(And.intro (show (0 : Int) ≤ (9 : Int) from (by decide)) (show (9 : Int) < ((Mw.mk (wRv (0 : Int) (0 : Int) (2 : Int) (List.take xi rows))).ws.length : Int) from (show (9 : Int) < ((34 : Nat) : Int) by decide))), ?_, ?_, ?_, ?_, ?_⟩
       · exact ⟨(by decide), (show (9 : Int) < ((34 : Nat) : Int) by decide)⟩
       · exact ⟨(by decide), (show (9 : Int) < ((34 : Nat) : Int) by decide)⟩
       · exact ⟨(by decide), (show (9 : Int) < ((34 : Nat) : Int) by decide)⟩
       · exact ⟨(by decide), (show (9 : Int) < ((34 : Nat) : Int) by decide)⟩
       · exact ⟨⟨0, i, rd, rs, ws, xi, a, c, bk, value, IntKind.i64.wrap (steps + (1 : Int)), asked, W, rows⟩, (t2 ⟨rfl, rfl, t8 ⟨rfl, t9 ⟨rfl, rfl, rfl, rfl, rfl, rfl, t82 ⟨rfl, rfl, t19 ⟨rfl, t20 ⟨rfl, rfl, rfl, rfl, rfl, t16 ⟨rfl, rfl, rfl, ⟨hS, (show 0 + (55 - 2 * xi) ≤ 200 by omega)⟩, (show (10000 : Nat) - (0) < (1000000 : Nat) - n by omega), trivial⟩⟩⟩⟩⟩⟩⟩)⟩)
theorem wa_1F : Go.Sy.Tree.holds (cW l p cl w 19 (cut1 w (shF p 0) (obT p)) ⟨n, i, rd, rs, ws, xi, a, c, bk, value, steps, asked, W, rows⟩) = ( (decide ((↑n : Int) < IntKind.i64.wrap ((IntKind.u64.wrap w).tmod 60)) = true
 → ∃ (s : (dF p).St), p = p ∧ rd = s.rd ∧ rs = s.rs ∧ ws = s.ws ∧ wRv (0 : Int) 0 2 (List.take xi rows) = wRv (↑s.n : Int) 0 2 (List.take s.xi s.rows) ∧ wat = wat ∧ rows = s.rows ∧ takT (List.take xi rows) = takT
 (List.take s.xi s.rows) ∧ Z39 (steps = s.steps ∧ Q 32 ∧ filtT ws = filtT s.ws ∧ asked = s.asked ∧ Z40 (c = s.c ∧ Z92 ((↑xi : Int) = (↑s.xi : Int) ∧ Q 0 ∧ value = s.value ∧ Z19 (bk = s.bk ∧ Z53 ((↑i : Int) = (↑s.i : Int)
 ∧ Z16 ((dF p).I s ∧ (∀ (y : (oFE p).St), (oFE p).I s y → ∃ (s : US), w = w ∧ Z2 (wRv (↑y.n : Int) 0 2 (List.take y.xi y.rows) = wRv (0 : Int) 0 2 (List.take s.xi s.rows) ∧ y.steps = s.steps ∧ Z8 (y.c = s.c ∧ Z9 (y.rs =
 s.rs ∧ Q 32 ∧ y.ws = s.ws ∧ filtT y.ws = filtT s.ws ∧ y.asked = s.asked ∧ wat = wat ∧ Z82 ((↑y.xi : Int) = (↑s.xi : Int) ∧ y.value = s.value ∧ Z19 (y.bk = s.bk ∧ Z20 (y.rows = s.rows ∧ takT (List.take y.xi y.rows) = takT
 (List.take s.xi s.rows) ∧ Qb true ∧ p = p ∧ (↑y.i : Int) = (↑s.i : Int) ∧ Z16 (y.rd = s.rd ∧ Q 9 ∧ IntKind.i64.wrap ((↑n : Int) + 1) = (↑s.n : Int) ∧ ((shE p (0 : Int)).I s ∧ s.n ≤ 60) ∧ (1000000 : Nat) - s.n < 1000000 -
 n ∧ True)))))))) ∧ (∀ (y : (oFG p).St), (oFG p).I s y → ∃ (s : US), w = w ∧ Z2 (wRv (↑y.n : Int) 0 2 y.rows = wRv (0 : Int) 0 2 s.rows ∧ y.steps = s.steps ∧ Z8 (y.c = s.c ∧ Z9 (y.rs = s.rs ∧ Q 32 ∧ y.ws = s.ws ∧ filtT
 y.ws = filtT s.ws ∧ y.asked = s.asked ∧ wat = wat ∧ Z93 (y.value = s.value ∧ Z19 (y.bk = s.bk ∧ Z20 (y.rows = s.rows ∧ takT y.rows = takT s.rows ∧ Qb true ∧ p = p ∧ (↑y.i : Int) = (↑s.i : Int) ∧ Z16 (y.rd = s.rd ∧ Q 9 ∧
 IntKind.i64.wrap ((↑n : Int) + 1) = (↑s.n : Int) ∧ ((shG p (0 : Int)).I s ∧ s.n ≤ 60) ∧ (1000000 : Nat) - s.n < 1000000 - n ∧ True)))))))) ∧ True))))))) ∧ (decide ((↑n : Int) < IntKind.i64.wrap ((IntKind.u64.wrap w).tmod
 60)) = false → badD.pre (Mw.mk (wRv (0 : Int) 0 2 (List.take xi rows)), (9 : Int), ()) ∧ Bk 9 (wRv (0 : Int) 0 2 (List.take xi rows)) ∧ Bk 9 (wRv (0 : Int) 0 2 (List.take xi rows)) ∧ Bk 9 (wRv (0 : Int) 0 2 (List.take xi
 rows)) ∧ Bk 9 (wRv (0 : Int) 0 2 (List.take xi rows)) ∧ ∃ (s : US), Z2 ((wRv (0 : Int) 0 2 (List.take xi rows)).set (9 : Nat) (1 : Int) = wRv (1 : Int) 0 2 (List.take s.xi s.rows) ∧ IntKind.i64.wrap (steps + 1) = s.steps
 ∧ Z8 (c = s.c ∧ Z9 (rs = s.rs ∧ Q 32 ∧ ws = s.ws ∧ filtT ws = filtT s.ws ∧ asked = s.asked ∧ wat = wat ∧ Z91 ((↑xi : Int) = (↑s.xi : Int) ∧ Q 0 ∧ value = s.value ∧ Z19 (bk = s.bk ∧ Z20 (rows = s.rows ∧ takT (List.take xi
 rows) = takT (List.take s.xi s.rows) ∧ Qb true ∧ p = p ∧ (↑i : Int) = (↑s.i : Int) ∧ Z16 (rd = s.rd ∧ Qb false ∧ (0 : Int) = (↑s.n : Int) ∧ ((shF p (1 : Int)).I s ∧ s.n + (shF p (1 : Int)).R s ≤ 200) ∧ (10000 : Nat) -
 s.n < 1000000 - n ∧ True))))))))) := by kernel_rfl
theorem wa_1F_ok (l p : List Op) (cl w : Int) (s : US) (hI : (cut1 w (shF p 0) (obT p)).I s) : Paid (cW l p cl w 19 (cut1 w (shF p 0) (obT p)) s) := by
  obtain ⟨n, i, rd, rs, ws, xi, a, c, bk, value, steps, asked, W, rows⟩ := s
  obtain ⟨hS, hn⟩ := hI
  have hn : n ≤ 60 := hn
  have hw60 := when_lt w
  refine ⟨?_⟩
  rw [wa_1F]
  refine ⟨?_, ?_⟩
  · intro h1
    replace h1 := of_decide_eq_true h1
    first
    | (exfalso; omega)
    | (refine ⟨⟨0, i, rd, rs, ws, xi, a, c, bk, value, steps, asked, W, rows⟩, ⟨rfl, rfl, rfl, rfl, rfl, rfl, rfl, rfl, t39 ⟨rfl, rfl, rfl, rfl, t40 ⟨rfl, t92 ⟨rfl, rfl, rfl, t19 ⟨rfl, t53 ⟨rfl, t16 ⟨⟨hS, (show 0 ≤ 1 by decide)⟩, ?_, ?_, trivial⟩⟩⟩⟩⟩⟩⟩⟩
       · intro y hy2_
         obtain ⟨_, hy1, hyn, hyR⟩ := hy2_
         have hyn : y.n = 0 := hyn
         have hyR : 55 - 2 * y.xi < 54 - 2 * xi := hyR
         exact ⟨⟨n + 1, y.i, y.rd, y.rs, y.ws, y.xi, y.a, y.c, y.bk, y.value, y.steps, y.asked, y.W, y.rows⟩, ⟨rfl, t2 ⟨(by rw [hyn]; rfl), rfl, t8 ⟨rfl, t9 ⟨rfl, rfl, rfl, rfl, rfl, rfl, t82 ⟨rfl, rfl, t19 ⟨rfl, t20 ⟨rfl, rfl, rfl, rfl, rfl, t16 ⟨rfl, rfl, (wN (by omega)), ⟨hy1, (show (n + 1) ≤ (60 : Nat) by omega)⟩, (mN hn), trivial⟩⟩⟩⟩⟩⟩⟩⟩⟩
       · intro y hy3_
         obtain ⟨_, hy1, hyn, hyR⟩ := hy3_
         have hyn : y.n = 0 := hyn
         have hyR : 45 < 54 - 2 * xi := hyR
         exact ⟨⟨n + 1, y.i, y.rd, y.rs, y.ws, y.xi, y.a, y.c, y.bk, y.value, y.steps, y.asked, y.W, y.rows⟩, ⟨rfl, t2 ⟨(by rw [hyn]; rfl), rfl, t8 ⟨rfl, t9 ⟨rfl, rfl, rfl, rfl, rfl, rfl, t93 ⟨rfl, t19 ⟨rfl, t20 ⟨rfl, rfl, rfl, rfl, rfl, t16 ⟨rfl, rfl, (wN (by omega)), ⟨hy1, (show (n + 1) ≤ (60 : Nat) by omega)⟩, (mN hn), trivial⟩⟩⟩⟩⟩⟩⟩⟩⟩)
  · intro h4
    replace h4 := of_decide_eq_false h4
    first
    | (exfalso; omega)
    | (refine ⟨(And.intro (show (0 : Int) ≤ (9 : Int) from (by decide)) (show (9 : Int) < ((Mw.mk (wRv (0 : Int) (0 : Int) (2 : Int) (List.take xi rows))).ws.length : Int) from (show (9 : Int) < ((34 : Nat) : Int) by decide))), ?_, ?_, ?_, ?_, ?_⟩
       · exact ⟨(by decide), (show (9 : Int) < ((34 : Nat) : Int) by decide)⟩
       · exact ⟨(by decide), (show (9 : Int) < ((34 : Nat) : Int) by decide)⟩
       · exact ⟨(by decide), (show (9 : Int) < ((34 : Nat) : Int) by decide)⟩
       · exact ⟨(by decide), (show (9 : Int) < ((34 : Nat) : Int) by decide)⟩
       · exact ⟨⟨0, i, rd, rs, ws, xi, a, c, bk, value, IntKind.i64.wrap (steps + (1 : Int)), asked, W, rows⟩, (t2 ⟨rfl, rfl, t8 ⟨rfl, t9 ⟨rfl, rfl, rfl, rfl, rfl, rfl, t91 ⟨rfl, rfl, rfl, t19 ⟨rfl, t20 ⟨rfl, rfl, rfl, rfl, rfl, t16 ⟨rfl, rfl, rfl, ⟨hS, (show 0 + (54 - 2 * xi) ≤ 200 by omega)⟩, (show (10000 : Nat) - (0) < (1000000 : Nat) - n by omega), trivial⟩⟩⟩⟩⟩⟩⟩)⟩)
theorem wa_1G : Go.Sy.Tree.holds (cW l p cl w 19 (cut1 w (shG p 0) (obR p)) ⟨n, i, rd, rs, ws, xi, a, c, bk, value, steps, asked, W, rows⟩) = ( (decide ((↑n : Int) < IntKind.i64.wrap ((IntKind.u64.wrap w).tmod 60)) = true
 → ∃ (s : (dG p).St), p = p ∧ rd = s.rd ∧ rs = s.rs ∧ ws = s.ws ∧ wRv (0 : Int) 0 2 rows = wRv (↑s.n : Int) 0 2 s.rows ∧ wat = wat ∧ rows = s.rows ∧ takT rows = takT s.rows ∧ Z39 (steps = s.steps ∧ Q 32 ∧ filtT ws = filtT
 s.ws ∧ asked = s.asked ∧ Z40 (c = s.c ∧ Z57 (value = s.value ∧ Z19 (bk = s.bk ∧ Z53 ((↑i : Int) = (↑s.i : Int) ∧ Z16 ((dG p).I s ∧ (∀ (y : (oGH p).St), (oGH p).I s y → ∃ (s : US), w = w ∧ Z2 (wRv (↑y.n : Int) 0 2 y.rows
 = wRv (0 : Int) 0 2 s.rows ∧ y.steps = s.steps ∧ Z8 (y.c = s.c ∧ Z9 (y.rs = s.rs ∧ Q 32 ∧ y.ws = s.ws ∧ filtT y.ws = filtT s.ws ∧ y.asked = s.asked ∧ wat = wat ∧ Z93 (y.value = s.value ∧ Z47 (y.rows = s.rows ∧ takT
 y.rows = takT s.rows ∧ Qb true ∧ p = p ∧ (↑y.i : Int) = (↑s.i : Int) ∧ Z16 (y.rd = s.rd ∧ Q 9 ∧ IntKind.i64.wrap ((↑n : Int) + 1) = (↑s.n : Int) ∧ ((shH p (0 : Int)).I s ∧ s.n ≤ 60) ∧ (1000000 : Nat) - s.n < 1000000 - n
 ∧ True))))))) ∧ (∀ (y : (oGJ p).St), (oGJ p).I s y → ∃ (s : US), w = w ∧ Z2 (wRv (↑y.n : Int) y.a (2 : Int) y.rows = wRv (0 : Int) s.a (2 : Int) s.rows ∧ y.steps = s.steps ∧ Z8 (y.c = s.c ∧ Z9 (y.rs = s.rs ∧ Q 32 ∧ y.ws
 = s.ws ∧ filtT y.ws = filtT s.ws ∧ y.asked = s.asked ∧ wat = wat ∧ Z83 (y.value = s.value ∧ y.a = s.a ∧ y.rows = s.rows ∧ takT y.rows = takT s.rows ∧ Qb true ∧ p = p ∧ (↑y.i : Int) = (↑s.i : Int) ∧ Z16 (y.rd = s.rd ∧ Q 9
 ∧ IntKind.i64.wrap ((↑n : Int) + 1) = (↑s.n : Int) ∧ ((shJ p (0 : Int)).I s ∧ s.n ≤ 60) ∧ (1000000 : Nat) - s.n < 1000000 - n ∧ True)))))) ∧ True))))))) ∧ (decide ((↑n : Int) < IntKind.i64.wrap ((IntKind.u64.wrap w).tmod
 60)) = false → badD.pre (Mw.mk (wRv (0 : Int) 0 2 rows), (9 : Int), ()) ∧ Bk 9 (wRv (0 : Int) 0 2 rows) ∧ Bk 9 (wRv (0 : Int) 0 2 rows) ∧ Bk 9 (wRv (0 : Int) 0 2 rows) ∧ Bk 9 (wRv (0 : Int) 0 2 rows) ∧ ∃ (s : US), Z2
 ((wRv (0 : Int) 0 2 rows).set (9 : Nat) (1 : Int) = wRv (1 : Int) 0 2 s.rows ∧ IntKind.i64.wrap (steps + 1) = s.steps ∧ Z8 (c = s.c ∧ Z9 (rs = s.rs ∧ Q 32 ∧ ws = s.ws ∧ filtT ws = filtT s.ws ∧ asked = s.asked ∧ wat = wat
 ∧ Z93 (value = s.value ∧ Z19 (bk = s.bk ∧ Z20 (rows = s.rows ∧ takT rows = takT s.rows ∧ Qb true ∧ p = p ∧ (↑i : Int) = (↑s.i : Int) ∧ Z16 (rd = s.rd ∧ Qb false ∧ (0 : Int) = (↑s.n : Int) ∧ ((shG p (1 : Int)).I s ∧ s.n +
 (shG p (1 : Int)).R s ≤ 200) ∧ (10000 : Nat) - s.n < 1000000 - n ∧ True))))))))) := by kernel_rfl
theorem wa_1G_ok (l p : List Op) (cl w : Int) (s : US) (hI : (cut1 w (shG p 0) (obR p)).I s) : Paid (cW l p cl w 19 (cut1 w (shG p 0) (obR p)) s) := by
  obtain ⟨n, i, rd, rs, ws, xi, a, c, bk, value, steps, asked, W, rows⟩ := s
  obtain ⟨hS, hn⟩ := hI
  have hn : n ≤ 60 := hn
  have hw60 := when_lt w
  refine ⟨?_⟩
  rw [wa_1G]
  refine ⟨?_, ?_⟩
  · intro h1
    replace h1 := of_decide_eq_true h1
    first
    | (exfalso; omega)
    | (refine ⟨⟨0, i, rd, rs, ws, xi, a, c, bk, value, steps, asked, W, rows⟩, ⟨rfl, rfl, rfl, rfl, rfl, rfl, rfl, rfl, t39 ⟨rfl, rfl, rfl, rfl, t40 ⟨rfl, t57 ⟨rfl, t19 ⟨rfl, t53 ⟨rfl, t16 ⟨⟨hS, (show 0 ≤ 1 by decide)⟩, ?_, ?_, trivial⟩⟩⟩⟩⟩⟩⟩⟩
       · intro y hy2_
         obtain ⟨_, hy1, hyn, hyR⟩ := hy2_
         have hyn : y.n = 0 := hyn
         have hyR : 44 < 45 := hyR
         exact ⟨⟨n + 1, y.i, y.rd, y.rs, y.ws, y.xi, y.a, y.c, y.bk, y.value, y.steps, y.asked, y.W, y.rows⟩, ⟨rfl, t2 ⟨(by rw [hyn]; rfl), rfl, t8 ⟨rfl, t9 ⟨rfl, rfl, rfl, rfl, rfl, rfl, t93 ⟨rfl, t47 ⟨rfl, rfl, rfl, rfl, rfl, t16 ⟨rfl, rfl, (wN (by omega)), ⟨hy1, (show (n + 1) ≤ (60 : Nat) by omega)⟩, (mN hn), trivial⟩⟩⟩⟩⟩⟩⟩⟩
       · intro y hy3_
         obtain ⟨_, hy1, hyn, hyR⟩ := hy3_
         have hyn : y.n = 0 := hyn
         have hyR : 30 < 45 := hyR
         exact ⟨⟨n + 1, y.i, y.rd, y.rs, y.ws, y.xi, y.a, y.c, y.bk, y.value, y.steps, y.asked, y.W, y.rows⟩, ⟨rfl, t2 ⟨(by rw [hyn]; rfl), rfl, t8 ⟨rfl, t9 ⟨rfl, rfl, rfl, rfl, rfl, rfl, t83 ⟨rfl, rfl, rfl, rfl, rfl, rfl, rfl, t16 ⟨rfl, rfl, (wN (by omega)), ⟨hy1, (show (n + 1) ≤ (60 : Nat) by omega)⟩, (mN hn), trivial⟩⟩⟩⟩⟩⟩⟩)
  · intro h4
    replace h4 := of_decide_eq_false h4
    first
    | (exfalso; omega)
    | (refine ⟨(And.intro (show (0 : Int) ≤ (9 : Int) from (by decide)) (show (9 : Int) < ((Mw.mk (wRv (0 : Int) (0 : Int) (2 : Int) rows)).ws.length : Int) from (show (9 : Int) < ((34 : Nat) : Int) by decide))), ?_, ?_, ?_, ?_, ?_⟩
       · exact ⟨(by decide), (show (9 : Int) < ((34 : Nat) : Int) by decide)⟩
       · exact ⟨(by decide), (show (9 : Int) < ((34 : Nat) : Int) by decide)⟩
       · exact ⟨(by decide), (show (9 : Int) < ((34 : Nat) : Int) by decide)⟩
       · exact ⟨(by decide), (show (9 : Int) < ((34 : Nat) : Int) by decide)⟩
       · exact ⟨⟨0, i, rd, rs, ws, xi, a, c, bk, value, IntKind.i64.wrap (steps + (1 : Int)), asked, W, rows⟩, (t2 ⟨rfl, rfl, t8 ⟨rfl, t9 ⟨rfl, rfl, rfl, rfl, rfl, rfl, t93 ⟨rfl, t19 ⟨rfl, t20 ⟨rfl, rfl, rfl, rfl, rfl, t16 ⟨rfl, rfl, rfl, ⟨hS, (show 0 + (45) ≤ 200 by omega)⟩, (show (10000 : Nat) - (0) < (1000000 : Nat) - n by omega), trivial⟩⟩⟩⟩⟩⟩⟩)⟩)
theorem wa_1H : Go.Sy.Tree.holds (cW l p cl w 19 (cut1 w (shH p 0) (obR p)) ⟨n, i, rd, rs, ws, xi, a, c, bk, value, steps, asked, W, rows⟩) = ( (decide ((↑n : Int) < IntKind.i64.wrap ((IntKind.u64.wrap w).tmod 60)) = true
 → ∃ (s : (dH p).St), p = p ∧ rd = s.rd ∧ rs = s.rs ∧ ws = s.ws ∧ wRv (0 : Int) 0 2 rows = wRv (↑s.n : Int) 0 2 s.rows ∧ wat = wat ∧ rows = s.rows ∧ takT rows = takT s.rows ∧ Z39 (steps = s.steps ∧ Q 32 ∧ filtT ws = filtT
 s.ws ∧ asked = s.asked ∧ Z40 (c = s.c ∧ Z57 (value = s.value ∧ Z94 ((↑i : Int) = (↑s.i : Int) ∧ Z16 ((dH p).I s ∧ (∀ (y : (oHI p).St), (oHI p).I s y → ∃ (s : US), w = w ∧ Z2 (wRv (↑y.n : Int) 1 2 y.rows = wRv (0 : Int) 1
 2 s.rows ∧ y.steps = s.steps ∧ Z8 (y.c = s.c ∧ Z9 (y.rs = s.rs ∧ Q 32 ∧ y.ws = s.ws ∧ filtT y.ws = filtT s.ws ∧ y.asked = s.asked ∧ wat = wat ∧ Z95 ((↑y.xi : Int) = (↑s.xi : Int) ∧ y.value = s.value ∧ Z29 (y.bk = s.bk ∧
 y.rows = s.rows ∧ takT y.rows = takT s.rows ∧ Qb true ∧ p = p ∧ (↑y.i : Int) = (↑s.i : Int) ∧ Z16 (y.rd = s.rd ∧ Q 9 ∧ IntKind.i64.wrap ((↑n : Int) + 1) = (↑s.n : Int) ∧ ((shI p (0 : Int)).I s ∧ s.n ≤ 60) ∧ (1000000 :
 Nat) - s.n < 1000000 - n ∧ True))))))) ∧ (∀ (y : (oHJ p).St), (oHJ p).I s y → ∃ (s : US), w = w ∧ Z2 (wRv (↑y.n : Int) y.a (2 : Int) y.rows = wRv (0 : Int) s.a (2 : Int) s.rows ∧ y.steps = s.steps ∧ Z8 (y.c = s.c ∧ Z9
 (y.rs = s.rs ∧ Q 32 ∧ y.ws = s.ws ∧ filtT y.ws = filtT s.ws ∧ y.asked = s.asked ∧ wat = wat ∧ Z83 (y.value = s.value ∧ y.a = s.a ∧ y.rows = s.rows ∧ takT y.rows = takT s.rows ∧ Qb true ∧ p = p ∧ (↑y.i : Int) = (↑s.i :
 Int) ∧ Z16 (y.rd = s.rd ∧ Q 9 ∧ IntKind.i64.wrap ((↑n : Int) + 1) = (↑s.n : Int) ∧ ((shJ p (0 : Int)).I s ∧ s.n ≤ 60) ∧ (1000000 : Nat) - s.n < 1000000 - n ∧ True)))))) ∧ True)))))) ∧ (decide ((↑n : Int) <
 IntKind.i64.wrap ((IntKind.u64.wrap w).tmod 60)) = false → badD.pre (Mw.mk (wRv (0 : Int) 0 2 rows), (9 : Int), ()) ∧ Bk 9 (wRv (0 : Int) 0 2 rows) ∧ Bk 9 (wRv (0 : Int) 0 2 rows) ∧ Bk 9 (wRv (0 : Int) 0 2 rows) ∧ Bk 9
 (wRv (0 : Int) 0 2 rows) ∧ ∃ (s : US), Z2 ((wRv (0 : Int) 0 2 rows).set (9 : Nat) (1 : Int) = wRv (1 : Int) 0 2 s.rows ∧ IntKind.i64.wrap (steps + 1) = s.steps ∧ Z8 (c = s.c ∧ Z9 (rs = s.rs ∧ Q 32 ∧ ws = s.ws ∧ filtT ws
 = filtT s.ws ∧ asked = s.asked ∧ wat = wat ∧ Z93 (value = s.value ∧ Z47 (rows = s.rows ∧ takT rows = takT s.rows ∧ Qb true ∧ p = p ∧ (↑i : Int) = (↑s.i : Int) ∧ Z16 (rd = s.rd ∧ Qb false ∧ (0 : Int) = (↑s.n : Int) ∧
 ((shH p (1 : Int)).I s ∧ s.n + (shH p (1 : Int)).R s ≤ 200) ∧ (10000 : Nat) - s.n < 1000000 - n ∧ True)))))))) := by kernel_rfl
theorem wa_1H_ok (l p : List Op) (cl w : Int) (s : US) (hI : (cut1 w (shH p 0) (obR p)).I s) : Paid (cW l p cl w 19 (cut1 w (shH p 0) (obR p)) s) := by
  obtain ⟨n, i, rd, rs, ws, xi, a, c, bk, value, steps, asked, W, rows⟩ := s
  obtain ⟨hS, hn⟩ := hI
  have hn : n ≤ 60 := hn
  have hw60 := when_lt w
  refine ⟨?_⟩
  rw [wa_1H]
  refine ⟨?_, ?_⟩
  · intro h1
    replace h1 := of_decide_eq_true h1
    first
    | (exfalso; omega)
    | (refine ⟨⟨0, i, rd, rs, ws, xi, a, c, bk, value, steps, asked, W, rows⟩, ⟨rfl, rfl, rfl, rfl, rfl, rfl, rfl, rfl, t39 ⟨rfl, rfl, rfl, rfl, t40 ⟨rfl, t57 ⟨rfl, t94 ⟨rfl, t16 ⟨⟨hS, (show 0 ≤ 1 by decide)⟩, ?_, ?_, trivial⟩⟩⟩⟩⟩⟩⟩
       · intro y hy2_
         obtain ⟨_, hy1, hyn, hyR⟩ := hy2_
         have hyn : y.n = 0 := hyn
         have hyR : 43 - y.xi < 44 := hyR
         exact ⟨⟨n + 1, y.i, y.rd, y.rs, y.ws, y.xi, y.a, y.c, y.bk, y.value, y.steps, y.asked, y.W, y.rows⟩, ⟨rfl, t2 ⟨(by rw [hyn]; rfl), rfl, t8 ⟨rfl, t9 ⟨rfl, rfl, rfl, rfl, rfl, rfl, t95 ⟨rfl, rfl, t29 ⟨rfl, rfl, rfl, rfl, rfl, rfl, t16 ⟨rfl, rfl, (wN (by omega)), ⟨hy1, (show (n + 1) ≤ (60 : Nat) by omega)⟩, (mN hn), trivial⟩⟩⟩⟩⟩⟩⟩⟩
       · intro y hy3_
         obtain ⟨_, hy1, hyn, hyR⟩ := hy3_
         have hyn : y.n = 0 := hyn
         have hyR : 30 < 44 := hyR
         exact ⟨⟨n + 1, y.i, y.rd, y.rs, y.ws, y.xi, y.a, y.c, y.bk, y.value, y.steps, y.asked, y.W, y.rows⟩, ⟨rfl, t2 ⟨(by rw [hyn]; rfl), rfl, t8 ⟨rfl, t9 ⟨rfl, rfl, rfl, rfl, rfl, rfl, t83 ⟨rfl, rfl, rfl, rfl, rfl, rfl, rfl, t16 ⟨rfl, rfl, (wN (by omega)), ⟨hy1, (show (n + 1) ≤ (60 : Nat) by omega)⟩, (mN hn), trivial⟩⟩⟩⟩⟩⟩⟩)
  · intro h4
    replace h4 := of_decide_eq_false h4
    first
    | (exfalso; omega)
    | (refine ⟨(And.intro (show (0 : Int) ≤ (9 : Int) from (by decide)) (show (9 : Int) < ((Mw.mk (wRv (0 : Int) (0 : Int) (2 : Int) rows)).ws.length : Int) from (show (9 : Int) < ((34 : Nat) : Int) by decide))), ?_, ?_, ?_, ?_, ?_⟩
       · exact ⟨(by decide), (show (9 : Int) < ((34 : Nat) : Int) by decide)⟩
       · exact ⟨(by decide), (show (9 : Int) < ((34 : Nat) : Int) by decide)⟩
       · exact ⟨(by decide), (show (9 : Int) < ((34 : Nat) : Int) by decide)⟩
       · exact ⟨(by decide), (show (9 : Int) < ((34 : Nat) : Int) by decide)⟩
       · exact ⟨⟨0, i, rd, rs, ws, xi, a, c, bk, value, IntKind.i64.wrap (steps + (1 : Int)), asked, W, rows⟩, (t2 ⟨rfl, rfl, t8 ⟨rfl, t9 ⟨rfl, rfl, rfl, rfl, rfl, rfl, t93 ⟨rfl, t47 ⟨rfl, rfl, rfl, rfl, rfl, t16 ⟨rfl, rfl, rfl, ⟨hS, (show 0 + (44) ≤ 200 by omega)⟩, (show (10000 : Nat) - (0) < (1000000 : Nat) - n by omega), trivial⟩⟩⟩⟩⟩⟩)⟩)
theorem wa_1I : Go.Sy.Tree.holds (cW l p cl w 19 (cut1 w (shI p 0) (obR p)) ⟨n, i, rd, rs, ws, xi, a, c, bk, value, steps, asked, W, rows⟩) = ( (decide ((↑n : Int) < IntKind.i64.wrap ((IntKind.u64.wrap w).tmod 60)) = true
 → ∃ (s : (dI p).St), p = p ∧ rd = s.rd ∧ rs = s.rs ∧ ws = s.ws ∧ wRv (0 : Int) 1 2 rows = wRv (↑s.n : Int) 1 2 s.rows ∧ wat = wat ∧ rows = s.rows ∧ takT rows = takT s.rows ∧ Z39 (steps = s.steps ∧ Q 32 ∧ filtT ws = filtT
 s.ws ∧ asked = s.asked ∧ Z40 (c = s.c ∧ Z60 ((↑xi : Int) = (↑s.xi : Int) ∧ value = s.value ∧ Z29 (bk = s.bk ∧ Qb true ∧ (↑i : Int) = (↑s.i : Int) ∧ Z16 ((dI p).I s ∧ (∀ (y : (oII p).St), (oII p).I s y → ∃ (s : US), w = w
 ∧ Z2 (wRv (↑y.n : Int) 1 2 y.rows = wRv (0 : Int) 1 2 s.rows ∧ y.steps = s.steps ∧ Z8 (y.c = s.c ∧ Z9 (y.rs = s.rs ∧ Q 32 ∧ y.ws = s.ws ∧ filtT y.ws = filtT s.ws ∧ y.asked = s.asked ∧ wat = wat ∧ Z95 ((↑y.xi : Int) =
 (↑s.xi : Int) ∧ y.value = s.value ∧ Z29 (y.bk = s.bk ∧ y.rows = s.rows ∧ takT y.rows = takT s.rows ∧ Qb true ∧ p = p ∧ (↑y.i : Int) = (↑s.i : Int) ∧ Z16 (y.rd = s.rd ∧ Q 9 ∧ IntKind.i64.wrap ((↑n : Int) + 1) = (↑s.n :
 Int) ∧ ((shI p (0 : Int)).I s ∧ s.n ≤ 60) ∧ (1000000 : Nat) - s.n < 1000000 - n ∧ True))))))) ∧ (∀ (y : (oIJ p).St), (oIJ p).I s y → ∃ (s : US), w = w ∧ Z2 (wRv (↑y.n : Int) y.a (2 : Int) y.rows = wRv (0 : Int) s.a (2 :
 Int) s.rows ∧ y.steps = s.steps ∧ Z8 (y.c = s.c ∧ Z9 (y.rs = s.rs ∧ Q 32 ∧ y.ws = s.ws ∧ filtT y.ws = filtT s.ws ∧ y.asked = s.asked ∧ wat = wat ∧ Z83 (y.value = s.value ∧ y.a = s.a ∧ y.rows = s.rows ∧ takT y.rows = takT
 s.rows ∧ Qb true ∧ p = p ∧ (↑y.i : Int) = (↑s.i : Int) ∧ Z16 (y.rd = s.rd ∧ Q 9 ∧ IntKind.i64.wrap ((↑n : Int) + 1) = (↑s.n : Int) ∧ ((shJ p (0 : Int)).I s ∧ s.n ≤ 60) ∧ (1000000 : Nat) - s.n < 1000000 - n ∧ True)))))) ∧
 True)))))) ∧ (decide ((↑n : Int) < IntKind.i64.wrap ((IntKind.u64.wrap w).tmod 60)) = false → badD.pre (Mw.mk (wRv (0 : Int) 1 2 rows), (9 : Int), ()) ∧ Bk 9 (wRv (0 : Int) 1 2 rows) ∧ Bk 9 (wRv (0 : Int) 1 2 rows) ∧ Bk
 9 (wRv (0 : Int) 1 2 rows) ∧ Bk 9 (wRv (0 : Int) 1 2 rows) ∧ ∃ (s : US), Z2 ((wRv (0 : Int) 1 2 rows).set (9 : Nat) (1 : Int) = wRv (1 : Int) 1 2 s.rows ∧ IntKind.i64.wrap (steps + 1) = s.steps ∧ Z8 (c = s.c ∧ Z9 (rs =
 s.rs ∧ Q 32 ∧ ws = s.ws ∧ filtT ws = filtT s.ws ∧ asked = s.asked ∧ wat = wat ∧ Z95 ((↑xi : Int) = (↑s.xi : Int) ∧ value = s.value ∧ Z29 (bk = s.bk ∧ rows = s.rows ∧ takT rows = takT s.rows ∧ Qb true ∧ p = p ∧ (↑i : Int)
 = (↑s.i : Int) ∧ Z16 (rd = s.rd ∧ Qb false ∧ (0 : Int) = (↑s.n : Int) ∧ ((shI p (1 : Int)).I s ∧ s.n + (shI p (1 : Int)).R s ≤ 200) ∧ (10000 : Nat) - s.n < 1000000 - n ∧ True)))))))) := by kernel_rfl
theorem wa_1I_ok (l p : List Op) (cl w : Int) (s : US) (hI : (cut1 w (shI p 0) (obR p)).I s) : Paid (cW l p cl w 19 (cut1 w (shI p 0) (obR p)) s) := by
  obtain ⟨n, i, rd, rs, ws, xi, a, c, bk, value, steps, asked, W, rows⟩ := s
  obtain ⟨hS, hn⟩ := hI
  have hn : n ≤ 60 := hn
  have hw60 := when_lt w
  refine ⟨?_⟩
  rw [wa_1I]
  refine ⟨?_, ?_⟩
  · intro h1
    replace h1 := of_decide_eq_true h1
    first
    | (exfalso; omega)
    | (refine ⟨⟨0, i, rd, rs, ws, xi, a, c, bk, value, steps, asked, W, rows⟩, ⟨rfl, rfl, rfl, rfl, rfl, rfl, rfl, rfl, t39 ⟨rfl, rfl, rfl, rfl, t40 ⟨rfl, t60 ⟨rfl, rfl, t29 ⟨rfl, rfl, rfl, t16 ⟨⟨hS, (show 0 ≤ 1 by decide)⟩, ?_, ?_, trivial⟩⟩⟩⟩⟩⟩⟩
       · intro y hy2_
         obtain ⟨_, hy1, hyn, hyR⟩ := hy2_
         have hyn : y.n = 0 := hyn
         have hyR : 43 - y.xi < 43 - xi := hyR
         exact ⟨⟨n + 1, y.i, y.rd, y.rs, y.ws, y.xi, y.a, y.c, y.bk, y.value, y.steps, y.asked, y.W, y.rows⟩, ⟨rfl, t2 ⟨(by rw [hyn]; rfl), rfl, t8 ⟨rfl, t9 ⟨rfl, rfl, rfl, rfl, rfl, rfl, t95 ⟨rfl, rfl, t29 ⟨rfl, rfl, rfl, rfl, rfl, rfl, t16 ⟨rfl, rfl, (wN (by omega)), ⟨hy1, (show (n + 1) ≤ (60 : Nat) by omega)⟩, (mN hn), trivial⟩⟩⟩⟩⟩⟩⟩⟩
       · intro y hy3_
         obtain ⟨_, hy1, hyn, hyR⟩ := hy3_
         have hyn : y.n = 0 := hyn
         have hyR : 30 < 43 - xi := hyR
         exact ⟨⟨n + 1, y.i, y.rd, y.rs, y.ws, y.xi, y.a, y.c, y.bk, y.value, y.steps, y.asked, y.W, y.rows⟩, ⟨rfl, t2 ⟨(by rw [hyn]; rfl), rfl, t8 ⟨rfl, t9 ⟨rfl, rfl, rfl, rfl, rfl, rfl, t83 ⟨rfl, rfl, rfl, rfl, rfl, rfl, rfl, t16 ⟨rfl, rfl, (wN (by omega)), ⟨hy1, (show (n + 1) ≤ (60 : Nat) by omega)⟩, (mN hn), trivial⟩⟩⟩⟩⟩⟩⟩)
  · intro h4
    replace h4 := of_decide_eq_false h4
    first
    | (exfalso; omega)
    | (refine ⟨(And.intro (show (0 : Int) ≤ (9 : Int) from (by decide)) (show (9 : Int) < ((Mw.mk (wRv (0 : Int) (1 : Int) (2 : Int) rows)).ws.length : Int) from (show (9 : Int) < ((34 : Nat) : Int) by decide))), ?_, ?_, ?_, ?_, ?_⟩
       · exact ⟨(by decide), (show (9 : Int) < ((34 : Nat) : Int) by decide)⟩
       · exact ⟨(by decide), (show (9 : Int) < ((34 : Nat) : Int) by decide)⟩
       · exact ⟨(by decide), (show (9 : Int) < ((34 : Nat) : Int) by decide)⟩
       · exact ⟨(by decide), (show (9 : Int) < ((34 : Nat) : Int) by decide)⟩
       · exact ⟨⟨0, i, rd, rs, ws, xi, a, c, bk, value, IntKind.i64.wrap (steps + (1 : Int)), asked, W, rows⟩, (t2 ⟨rfl, rfl, t8 ⟨rfl, t9 ⟨rfl, rfl, rfl, rfl, rfl, rfl, t95 ⟨rfl, rfl, t29 ⟨rfl, rfl, rfl, rfl, rfl, rfl, t16 ⟨rfl, rfl, rfl, ⟨hS, (show 0 + (43 - xi) ≤ 200 by omega)⟩, (show (10000 : Nat) - (0) < (1000000 : Nat) - n by omega), trivial⟩⟩⟩⟩⟩⟩)⟩)
theorem wa_1J : Go.Sy.Tree.holds (cW l p cl w 19 (cut1 w (shJ p 0) (obR p)) ⟨n, i, rd, rs, ws, xi, a, c, bk, value, steps, asked, W, rows⟩) = ( (decide ((↑n : Int) < IntKind.i64.wrap ((IntKind.u64.wrap w).tmod 60)) = true
 → ∃ (s : (dJ p).St), p = p ∧ rd = s.rd ∧ rs = s.rs ∧ ws = s.ws ∧ wRv (0 : Int) a (2 : Int) rows = wRv (↑s.n : Int) s.a (2 : Int) s.rows ∧ wat = wat ∧ rows = s.rows ∧ takT rows = takT s.rows ∧ Z39 (steps = s.steps ∧ Q 32
 ∧ filtT ws = filtT s.ws ∧ asked = s.asked ∧ Z40 (c = s.c ∧ Z96 (value = s.value ∧ a = s.a ∧ Qb true ∧ (↑i : Int) = (↑s.i : Int) ∧ Z16 ((dJ p).I s ∧ (∀ (y : (oJK p).St), (oJK p).I s y → ∃ (s : US), w = w ∧ Z2 (y.W = s.W ∧
 y.steps = s.steps ∧ Z7 (y.rs = s.rs ∧ Q 32 ∧ y.ws = s.ws ∧ filtT y.ws = filtT s.ws ∧ y.asked = s.asked ∧ Z97 ((↑y.xi : Int) = (↑s.xi : Int) ∧ y.value = s.value ∧ Q 1 ∧ y.rows = s.rows ∧ p = p ∧ (↑y.i : Int) = (↑s.i :
 Int) ∧ Z16 (y.rd = s.rd ∧ Q 9 ∧ IntKind.i64.wrap ((↑n : Int) + 1) = (↑s.n : Int) ∧ ((shK p).I s ∧ s.n ≤ 60) ∧ (1000000 : Nat) - s.n < 1000000 - n ∧ True))))) ∧ (∀ (y : (oJM p).St), (oJM p).I s y → ∃ (s : US), w = w ∧ Z2
 (y.W = s.W ∧ y.steps = s.steps ∧ Z7 (y.rs = s.rs ∧ Q 32 ∧ y.ws = s.ws ∧ filtT y.ws = filtT s.ws ∧ y.asked = s.asked ∧ Z98 (y.value = s.value ∧ y.a = s.a ∧ p = p ∧ (↑y.i : Int) = (↑s.i : Int) ∧ Z16 (y.rd = s.rd ∧ Q 9 ∧
 IntKind.i64.wrap ((↑n : Int) + 1) = (↑s.n : Int) ∧ ((shM p).I s ∧ s.n ≤ 60) ∧ (1000000 : Nat) - s.n < 1000000 - n ∧ True))))) ∧ (∀ (y : (oJP p).St), (oJP p).I s y → Stuck "sel: elsewhere") ∧ True))))) ∧ (decide ((↑n :
 Int) < IntKind.i64.wrap ((IntKind.u64.wrap w).tmod 60)) = false → badD.pre (Mw.mk (wRv (0 : Int) a (2 : Int) rows), (9 : Int), ()) ∧ Bk 9 (wRv (0 : Int) a (2 : Int) rows) ∧ Bk 9 (wRv (0 : Int) a (2 : Int) rows) ∧ Bk 9
 (wRv (0 : Int) a (2 : Int) rows) ∧ Bk 9 (wRv (0 : Int) a (2 : Int) rows) ∧ ∃ (s : US), Z2 ((wRv (0 : Int) a (2 : Int) rows).set (9 : Nat) (1 : Int) = wRv (1 : Int) s.a (2 : Int) s.rows ∧ IntKind.i64.wrap (steps + 1) =
 s.steps ∧ Z8 (c = s.c ∧ Z9 (rs = s.rs ∧ Q 32 ∧ ws = s.ws ∧ filtT ws = filtT s.ws ∧ asked = s.asked ∧ wat = wat ∧ Z83 (value = s.value ∧ a = s.a ∧ rows = s.rows ∧ takT rows = takT s.rows ∧ Qb true ∧ p = p ∧ (↑i : Int) =
 (↑s.i : Int) ∧ Z16 (rd = s.rd ∧ Qb false ∧ (0 : Int) = (↑s.n : Int) ∧ ((shJ p (1 : Int)).I s ∧ s.n + (shJ p (1 : Int)).R s ≤ 200) ∧ (10000 : Nat) - s.n < 1000000 - n ∧ True))))))) := by kernel_rfl
theorem wa_1J_ok (l p : List Op) (cl w : Int) (s : US) (hI : (cut1 w (shJ p 0) (obR p)).I s) : Paid (cW l p cl w 19 (cut1 w (shJ p 0) (obR p)) s) := by
  obtain ⟨n, i, rd, rs, ws, xi, a, c, bk, value, steps, asked, W, rows⟩ := s
  obtain ⟨hS, hn⟩ := hI
  have hn : n ≤ 60 := hn
  have hw60 := when_lt w
  refine ⟨?_⟩
  rw [wa_1J]
  refine ⟨?_, ?_⟩
  · intro h1
    replace h1 := of_decide_eq_true h1
    first
    | (exfalso; omega)
    | (refine ⟨⟨0, i, rd, rs, ws, xi, a, c, bk, value, steps, asked, W, rows⟩, ⟨rfl, rfl, rfl, rfl, rfl, rfl, rfl, rfl, t39 ⟨rfl, rfl, rfl, rfl, t40 ⟨rfl, t96 ⟨rfl, rfl, rfl, rfl, t16 ⟨⟨hS, (show 0 ≤ 1 by decide)⟩, ?_, ?_, ?_, trivial⟩⟩⟩⟩⟩⟩
       · intro y hy2_
         obtain ⟨_, hy1, hyn, hyR⟩ := hy2_
         have hyn : y.n = 0 := hyn
         have hyR : 29 - y.xi < 30 := hyR
         exact ⟨⟨n + 1, y.i, y.rd, y.rs, y.ws, y.xi, y.a, y.c, y.bk, y.value, y.steps, y.asked, y.W, y.rows⟩, ⟨rfl, t2 ⟨rfl, rfl, t7 ⟨rfl, rfl, rfl, rfl, rfl, t97 ⟨rfl, rfl, rfl, rfl, rfl, rfl, t16 ⟨rfl, rfl, (wN (by omega)), ⟨hy1, (show (n + 1) ≤ (60 : Nat) by omega)⟩, (mN hn), trivial⟩⟩⟩⟩⟩⟩
       · intro y hy3_
         obtain ⟨_, hy1, hyn, hyR⟩ := hy3_
         have hyn : y.n = 0 := hyn
         have hyR : 10 < 30 := hyR
         exact ⟨⟨n + 1, y.i, y.rd, y.rs, y.ws, y.xi, y.a, y.c, y.bk, y.value, y.steps, y.asked, y.W, y.rows⟩, ⟨rfl, t2 ⟨rfl, rfl, t7 ⟨rfl, rfl, rfl, rfl, rfl, t98 ⟨rfl, rfl, rfl, rfl, t16 ⟨rfl, rfl, (wN (by omega)), ⟨hy1, (show (n + 1) ≤ (60 : Nat) by omega)⟩, (mN hn), trivial⟩⟩⟩⟩⟩⟩
       · intro y hy4_
         exact absurd (show (0 : Nat) = 1 from hy4_.1) (by decide))
  · intro h5
    replace h5 := of_decide_eq_false h5
    first
    | (exfalso; omega)
    | (refine ⟨(And.intro (show (0 : Int) ≤ (9 : Int) from (by decide)) (show (9 : Int) < ((Mw.mk (wRv (0 : Int) a (2 : Int) rows)).ws.length : Int) from (show (9 : Int) < ((34 : Nat) : Int) by decide))), ?_, ?_, ?_, ?_, ?_⟩
       · exact ⟨(by decide), (show (9 : Int) < ((34 : Nat) : Int) by decide)⟩
       · exact ⟨(by decide), (show (9 : Int) < ((34 : Nat) : Int) by decide)⟩
       · exact ⟨(by decide), (show (9 : Int) < ((34 : Nat) : Int) by decide)⟩
       · exact ⟨(by decide), (show (9 : Int) < ((34 : Nat) : Int) by decide)⟩
       · exact ⟨⟨0, i, rd, rs, ws, xi, a, c, bk, value, IntKind.i64.wrap (steps + (1 : Int)), asked, W, rows⟩, (t2 ⟨rfl, rfl, t8 ⟨rfl, t9 ⟨rfl, rfl, rfl, rfl, rfl, rfl, t83 ⟨rfl, rfl, rfl, rfl, rfl, rfl, rfl, t16 ⟨rfl, rfl, rfl, ⟨hS, (show 0 + (30) ≤ 200 by omega)⟩, (show (10000 : Nat) - (0) < (1000000 : Nat) - n by omega), trivial⟩⟩⟩⟩⟩)⟩)
theorem wa_1K : Go.Sy.Tree.holds (cW l p cl w 19 (cut1 w (shK p) (ob2 p)) ⟨n, i, rd, rs, ws, xi, a, c, bk, value, steps, asked, W, rows⟩) = ( (decide ((↑n : Int) < IntKind.i64.wrap ((IntKind.u64.wrap w).tmod 60)) = true →
 ∃ (s : (dK p).St), p = p ∧ rd = s.rd ∧ rs = s.rs ∧ ws = s.ws ∧ W = s.W ∧ rows = s.rows ∧ Z39 (steps = s.steps ∧ Q 32 ∧ filtT ws = filtT s.ws ∧ asked = s.asked ∧ Z65 ((↑xi : Int) = (↑s.xi : Int) ∧ value = s.value ∧ Q 1 ∧
 (↑i : Int) = (↑s.i : Int) ∧ Z16 ((dK p).I s ∧ (∀ (y : (oKK p).St), (oKK p).I s y → ∃ (s : US), w = w ∧ Z2 (y.W = s.W ∧ y.steps = s.steps ∧ Z7 (y.rs = s.rs ∧ Q 32 ∧ y.ws = s.ws ∧ filtT y.ws = filtT s.ws ∧ y.asked =
 s.asked ∧ Z97 ((↑y.xi : Int) = (↑s.xi : Int) ∧ y.value = s.value ∧ Q 1 ∧ y.rows = s.rows ∧ p = p ∧ (↑y.i : Int) = (↑s.i : Int) ∧ Z16 (y.rd = s.rd ∧ Q 9 ∧ IntKind.i64.wrap ((↑n : Int) + 1) = (↑s.n : Int) ∧ ((shK p).I s ∧
 s.n ≤ 60) ∧ (1000000 : Nat) - s.n < 1000000 - n ∧ True))))) ∧ (∀ (y : (oKL p).St), (oKL p).I s y → ∃ (s : US), w = w ∧ Z2 (y.W = s.W ∧ y.steps = s.steps ∧ Z7 (y.rs = s.rs ∧ Q 32 ∧ y.ws = s.ws ∧ filtT y.ws = filtT s.ws ∧
 y.asked = s.asked ∧ Z99 ((↑y.xi : Int) = (↑s.xi : Int) ∧ y.value = s.value ∧ Q 1 ∧ y.rows = s.rows ∧ p = p ∧ (↑y.i : Int) = (↑s.i : Int) ∧ Z16 (y.rd = s.rd ∧ Q 9 ∧ IntKind.i64.wrap ((↑n : Int) + 1) = (↑s.n : Int) ∧ ((shL
 p).I s ∧ s.n ≤ 60) ∧ (1000000 : Nat) - s.n < 1000000 - n ∧ True))))) ∧ (∀ (y : (oKM p).St), (oKM p).I s y → ∃ (s : US), w = w ∧ Z2 (y.W = s.W ∧ y.steps = s.steps ∧ Z7 (y.rs = s.rs ∧ Q 32 ∧ y.ws = s.ws ∧ filtT y.ws =
 filtT s.ws ∧ y.asked = s.asked ∧ Z98 (y.value = s.value ∧ y.a = s.a ∧ p = p ∧ (↑y.i : Int) = (↑s.i : Int) ∧ Z16 (y.rd = s.rd ∧ Q 9 ∧ IntKind.i64.wrap ((↑n : Int) + 1) = (↑s.n : Int) ∧ ((shM p).I s ∧ s.n ≤ 60) ∧ (1000000
 : Nat) - s.n < 1000000 - n ∧ True))))) ∧ True)))) ∧ (decide ((↑n : Int) < IntKind.i64.wrap ((IntKind.u64.wrap w).tmod 60)) = false → badD.pre (Mw.mk (W), (9 : Int), ()) ∧ Bk 9 (W) ∧ Bk 9 (W) ∧ Bk 9 (W) ∧ Bk 9 (W) ∧ ∃ (s
 : US), Z2 ((W).set (9 : Nat) (1 : Int) = s.W ∧ IntKind.i64.wrap (steps + 1) = s.steps ∧ Z7 (rs = s.rs ∧ Q 32 ∧ ws = s.ws ∧ filtT ws = filtT s.ws ∧ asked = s.asked ∧ Z97 ((↑xi : Int) = (↑s.xi : Int) ∧ value = s.value ∧ Q
 1 ∧ rows = s.rows ∧ p = p ∧ (↑i : Int) = (↑s.i : Int) ∧ Z16 (rd = s.rd ∧ Qb true ∧ (0 : Int) = (↑s.n : Int) ∧ ((shK p).I s ∧ s.n + (shK p).R s ≤ 200) ∧ (10000 : Nat) - s.n < 1000000 - n ∧ True)))))) := by kernel_rfl
theorem wa_1K_ok (l p : List Op) (cl w : Int) (s : US) (hI : (cut1 w (shK p) (ob2 p)).I s) : Paid (cW l p cl w 19 (cut1 w (shK p) (ob2 p)) s) := by
  obtain ⟨n, i, rd, rs, ws, xi, a, c, bk, value, steps, asked, W, rows⟩ := s
  have hI0 := hI
  obtain ⟨hS, _⟩ := hI
  obtain ⟨⟨⟨⟨hpO, hc, hi, hrd, hrs, hws, hwd, hrr⟩, hnod⟩, ⟨he, hW⟩, hx⟩, hn⟩ := hI0
  have he : i = p.length + 1 := he
  have hW : W.length = 34 := hW
  obtain ⟨hx, hrin, hdone⟩ := hx
  have hrl : rows.length ≤ 3 := hrin.1
  have hx : xi < ws.length := hx
  have hv : isData (at3 ws (xi : Int)).pl := by rw [at3_get hx]; exact hwd _ (List.getElem_mem _)
  have hdone : DoneL xi ws W := hdone
  have hc : c = 1 ∨ c = 2 := hc
  have hi : i ≤ p.length + 1 := hi
  have hrd : rd.length ≤ i := hrd
  have hrs : rs.length ≤ i := hrs
  have hws : ws.length ≤ i := hws
  have hwd : ∀ w ∈ ws, isData w.pl := hwd
  have hrr : ∀ w ∈ rs, 0 ≤ w.pl ∧ w.pl < 3 := hrr
  have hB : ∀ {n xi : Nat} {a bk value steps asked : Int} {W rows : List Int}, baseI p ⟨n, i, rd, rs, ws, xi, a, c, bk, value, steps, asked, W, rows⟩ := mkBase hpO hc hi hrd hrs hws hwd hrr
  have hp8 := hpO.1
  have hn : n ≤ 60 := hn
  have hw60 := when_lt w
  refine ⟨?_⟩
  rw [wa_1K]
  refine ⟨?_, ?_⟩
  · intro h1
    replace h1 := of_decide_eq_true h1
    first
    | (exfalso; omega)
    | (refine ⟨⟨0, i, rd, rs, ws, xi, a, c, bk, value, steps, asked, W, rows⟩, ⟨rfl, rfl, rfl, rfl, rfl, rfl, t39 ⟨rfl, rfl, rfl, rfl, t65 ⟨rfl, rfl, rfl, rfl, t16 ⟨⟨hS, (show 0 ≤ 1 by decide)⟩, ?_, ?_, ?_, trivial⟩⟩⟩⟩⟩
       · intro y hy2_
         obtain ⟨_, hy1, hyn, hyR⟩ := hy2_
         have hyn : y.n = 0 := hyn
         have hyR : 29 - y.xi < 29 - xi := hyR
         exact ⟨⟨n + 1, y.i, y.rd, y.rs, y.ws, y.xi, y.a, y.c, y.bk, y.value, y.steps, y.asked, y.W, y.rows⟩, ⟨rfl, t2 ⟨rfl, rfl, t7 ⟨rfl, rfl, rfl, rfl, rfl, t97 ⟨rfl, rfl, rfl, rfl, rfl, rfl, t16 ⟨rfl, rfl, (wN (by omega)), ⟨hy1, (show (n + 1) ≤ (60 : Nat) by omega)⟩, (mN hn), trivial⟩⟩⟩⟩⟩⟩
       · intro y hy3_
         obtain ⟨_, hy1, hyn, hyR⟩ := hy3_
         have hyn : y.n = 0 := hyn
         have hyR : 18 - y.xi < 29 - xi := hyR
         exact ⟨⟨n + 1, y.i, y.rd, y.rs, y.ws, y.xi, y.a, y.c, y.bk, y.value, y.steps, y.asked, y.W, y.rows⟩, ⟨rfl, t2 ⟨rfl, rfl, t7 ⟨rfl, rfl, rfl, rfl, rfl, t99 ⟨rfl, rfl, rfl, rfl, rfl, rfl, t16 ⟨rfl, rfl, (wN (by omega)), ⟨hy1, (show (n + 1) ≤ (60 : Nat) by omega)⟩, (mN hn), trivial⟩⟩⟩⟩⟩⟩
       · intro y hy4_
         obtain ⟨_, hy1, hyn, hyR⟩ := hy4_
         have hyn : y.n = 0 := hyn
         have hyR : 10 < 29 - xi := hyR
         exact ⟨⟨n + 1, y.i, y.rd, y.rs, y.ws, y.xi, y.a, y.c, y.bk, y.value, y.steps, y.asked, y.W, y.rows⟩, ⟨rfl, t2 ⟨rfl, rfl, t7 ⟨rfl, rfl, rfl, rfl, rfl, t98 ⟨rfl, rfl, rfl, rfl, t16 ⟨rfl, rfl, (wN (by omega)), ⟨hy1, (show (n + 1) ≤ (60 : Nat) by omega)⟩, (mN hn), trivial⟩⟩⟩⟩⟩⟩)
  · intro h5
    replace h5 := of_decide_eq_false h5
    first
    | (exfalso; omega)
    | (refine ⟨(And.intro (show (0 : Int) ≤ (9 : Int) from (by decide)) (show (9 : Int) < ((Mw.mk (W)).ws.length : Int) from (by rw [hW]; decide))), ?_, ?_, ?_, ?_, ?_⟩
       · exact ⟨(by decide), (by rw [hW]; decide)⟩
       · exact ⟨(by decide), (by rw [hW]; decide)⟩
       · exact ⟨(by decide), (by rw [hW]; decide)⟩
       · exact ⟨(by decide), (by rw [hW]; decide)⟩
       · exact ⟨⟨0, i, rd, rs, ws, xi, a, c, bk, value, IntKind.i64.wrap (steps + (1 : Int)), asked, (W).set (9 : Nat) (1 : Int), rows⟩, (t2 ⟨rfl, rfl, t7 ⟨rfl, rfl, rfl, rfl, rfl, t97 ⟨rfl, rfl, rfl, rfl, rfl, rfl, t16 ⟨rfl, rfl, rfl, ⟨⟨(mkBW hB hnod), ⟨he, (by rw [List.length_set]; exact hW)⟩, ⟨hx, hrin, done_low hW hwd hdone 1 (by decide)⟩⟩, (show 0 + (29 - xi) ≤ 200 by omega)⟩, (show (10000 : Nat) - (0) < (1000000 : Nat) - n by omega), trivial⟩⟩⟩⟩)⟩)
theorem wa_1L : Go.Sy.Tree.holds (cW l p cl w 19 (cut1 w (shL p) (ob2 p)) ⟨n, i, rd, rs, ws, xi, a, c, bk, value, steps, asked, W, rows⟩) = ( (decide ((↑n : Int) < IntKind.i64.wrap ((IntKind.u64.wrap w).tmod 60)) = true →
 ∃ (s : (dL p).St), p = p ∧ rd = s.rd ∧ rs = s.rs ∧ ws = s.ws ∧ W = s.W ∧ rows = s.rows ∧ Z39 (steps = s.steps ∧ Q 32 ∧ filtT ws = filtT s.ws ∧ asked = s.asked ∧ Z68 ((↑xi : Int) = (↑s.xi : Int) ∧ value = s.value ∧ Q 1 ∧
 (↑i : Int) = (↑s.i : Int) ∧ Z16 ((dL p).I s ∧ (∀ (y : (oLL p).St), (oLL p).I s y → ∃ (s : US), w = w ∧ Z2 (y.W = s.W ∧ y.steps = s.steps ∧ Z7 (y.rs = s.rs ∧ Q 32 ∧ y.ws = s.ws ∧ filtT y.ws = filtT s.ws ∧ y.asked =
 s.asked ∧ Z99 ((↑y.xi : Int) = (↑s.xi : Int) ∧ y.value = s.value ∧ Q 1 ∧ y.rows = s.rows ∧ p = p ∧ (↑y.i : Int) = (↑s.i : Int) ∧ Z16 (y.rd = s.rd ∧ Q 9 ∧ IntKind.i64.wrap ((↑n : Int) + 1) = (↑s.n : Int) ∧ ((shL p).I s ∧
 s.n ≤ 60) ∧ (1000000 : Nat) - s.n < 1000000 - n ∧ True))))) ∧ (∀ (y : (oLM p).St), (oLM p).I s y → ∃ (s : US), w = w ∧ Z2 (y.W = s.W ∧ y.steps = s.steps ∧ Z7 (y.rs = s.rs ∧ Q 32 ∧ y.ws = s.ws ∧ filtT y.ws = filtT s.ws ∧
 y.asked = s.asked ∧ Z98 (y.value = s.value ∧ y.a = s.a ∧ p = p ∧ (↑y.i : Int) = (↑s.i : Int) ∧ Z16 (y.rd = s.rd ∧ Q 9 ∧ IntKind.i64.wrap ((↑n : Int) + 1) = (↑s.n : Int) ∧ ((shM p).I s ∧ s.n ≤ 60) ∧ (1000000 : Nat) - s.n
 < 1000000 - n ∧ True))))) ∧ True)))) ∧ (decide ((↑n : Int) < IntKind.i64.wrap ((IntKind.u64.wrap w).tmod 60)) = false → badD.pre (Mw.mk (W), (9 : Int), ()) ∧ Bk 9 (W) ∧ Bk 9 (W) ∧ Bk 9 (W) ∧ Bk 9 (W) ∧ ∃ (s : US), Z2
 ((W).set (9 : Nat) (1 : Int) = s.W ∧ IntKind.i64.wrap (steps + 1) = s.steps ∧ Z7 (rs = s.rs ∧ Q 32 ∧ ws = s.ws ∧ filtT ws = filtT s.ws ∧ asked = s.asked ∧ Z99 ((↑xi : Int) = (↑s.xi : Int) ∧ value = s.value ∧ Q 1 ∧ rows =
 s.rows ∧ p = p ∧ (↑i : Int) = (↑s.i : Int) ∧ Z16 (rd = s.rd ∧ Qb true ∧ (0 : Int) = (↑s.n : Int) ∧ ((shL p).I s ∧ s.n + (shL p).R s ≤ 200) ∧ (10000 : Nat) - s.n < 1000000 - n ∧ True)))))) := by kernel_rfl
theorem wa_1L_ok (l p : List Op) (cl w : Int) (s : US) (hI : (cut1 w (shL p) (ob2 p)).I s) : Paid (cW l p cl w 19 (cut1 w (shL p) (ob2 p)) s) := by
  obtain ⟨n, i, rd, rs, ws, xi, a, c, bk, value, steps, asked, W, rows⟩ := s
  have hI0 := hI
  obtain ⟨hS, _⟩ := hI
  obtain ⟨⟨⟨⟨hpO, hc, hi, hrd, hrs, hws, hwd, hrr⟩, hnod⟩, ⟨he, hW⟩, hx⟩, hn⟩ := hI0
  have he : i = p.length + 1 := he
  have hW : W.length = 34 := hW
  obtain ⟨hx, hrin, hdone⟩ := hx
  have hrl : rows.length ≤ 3 := hrin.1
  have hx : xi < rows.length := hx
  have hr : 0 ≤ at0 rows (xi : Int) ∧ at0 rows (xi : Int) < 3 := by rw [at0_get hx]; exact hrin.2 _ (List.getElem_mem _)
  have hdone : DoneL 100 ws W := hdone
  have hc : c = 1 ∨ c = 2 := hc
  have hi : i ≤ p.length + 1 := hi
  have hrd : rd.length ≤ i := hrd
  have hrs : rs.length ≤ i := hrs
  have hws : ws.length ≤ i := hws
  have hwd : ∀ w ∈ ws, isData w.pl := hwd
  have hrr : ∀ w ∈ rs, 0 ≤ w.pl ∧ w.pl < 3 := hrr
  have hB : ∀ {n xi : Nat} {a bk value steps asked : Int} {W rows : List Int}, baseI p ⟨n, i, rd, rs, ws, xi, a, c, bk, value, steps, asked, W, rows⟩ := mkBase hpO hc hi hrd hrs hws hwd hrr
  have hp8 := hpO.1
  have hn : n ≤ 60 := hn
  have hw60 := when_lt w
  refine ⟨?_⟩
  rw [wa_1L]
  refine ⟨?_, ?_⟩
  · intro h1
    replace h1 := of_decide_eq_true h1
    first
    | (exfalso; omega)
    | (refine ⟨⟨0, i, rd, rs, ws, xi, a, c, bk, value, steps, asked, W, rows⟩, ⟨rfl, rfl, rfl, rfl, rfl, rfl, t39 ⟨rfl, rfl, rfl, rfl, t68 ⟨rfl, rfl, rfl, rfl, t16 ⟨⟨hS, (show 0 ≤ 1 by decide)⟩, ?_, ?_, trivial⟩⟩⟩⟩⟩
       · intro y hy2_
         obtain ⟨_, hy1, hyn, hyR⟩ := hy2_
         have hyn : y.n = 0 := hyn
         have hyR : 18 - y.xi < 18 - xi := hyR
         exact ⟨⟨n + 1, y.i, y.rd, y.rs, y.ws, y.xi, y.a, y.c, y.bk, y.value, y.steps, y.asked, y.W, y.rows⟩, ⟨rfl, t2 ⟨rfl, rfl, t7 ⟨rfl, rfl, rfl, rfl, rfl, t99 ⟨rfl, rfl, rfl, rfl, rfl, rfl, t16 ⟨rfl, rfl, (wN (by omega)), ⟨hy1, (show (n + 1) ≤ (60 : Nat) by omega)⟩, (mN hn), trivial⟩⟩⟩⟩⟩⟩
       · intro y hy3_
         obtain ⟨_, hy1, hyn, hyR⟩ := hy3_
         have hyn : y.n = 0 := hyn
         have hyR : 10 < 18 - xi := hyR
         exact ⟨⟨n + 1, y.i, y.rd, y.rs, y.ws, y.xi, y.a, y.c, y.bk, y.value, y.steps, y.asked, y.W, y.rows⟩, ⟨rfl, t2 ⟨rfl, rfl, t7 ⟨rfl, rfl, rfl, rfl, rfl, t98 ⟨rfl, rfl, rfl, rfl, t16 ⟨rfl, rfl, (wN (by omega)), ⟨hy1, (show (n + 1) ≤ (60 : Nat) by omega)⟩, (mN hn), trivial⟩⟩⟩⟩⟩⟩)
  · intro h4
    replace h4 := of_decide_eq_false h4
    first
    | (exfalso; omega)
    | (refine ⟨(And.intro (show (0 : Int) ≤ (9 : Int) from (by decide)) (show (9 : Int) < ((Mw.mk (W)).ws.length : Int) from (by rw [hW]; decide))), ?_, ?_, ?_, ?_, ?_⟩
       · exact ⟨(by decide), (by rw [hW]; decide)⟩
       · exact ⟨(by decide), (by rw [hW]; decide)⟩
       · exact ⟨(by decide), (by rw [hW]; decide)⟩
       · exact ⟨(by decide), (by rw [hW]; decide)⟩
       · exact ⟨⟨0, i, rd, rs, ws, xi, a, c, bk, value, IntKind.i64.wrap (steps + (1 : Int)), asked, (W).set (9 : Nat) (1 : Int), rows⟩, (t2 ⟨rfl, rfl, t7 ⟨rfl, rfl, rfl, rfl, rfl, t99 ⟨rfl, rfl, rfl, rfl, rfl, rfl, t16 ⟨rfl, rfl, rfl, ⟨⟨(mkBW hB hnod), ⟨he, (by rw [List.length_set]; exact hW)⟩, ⟨hx, hrin, done_low hW hwd hdone 1 (by decide)⟩⟩, (show 0 + (18 - xi) ≤ 200 by omega)⟩, (show (10000 : Nat) - (0) < (1000000 : Nat) - n by omega), trivial⟩⟩⟩⟩)⟩)
theorem wa_1M : Go.Sy.Tree.holds (cW l p cl w 19 (cut1 w (shM p) (ob3 p)) ⟨n, i, rd, rs, ws, xi, a, c, bk, value, steps, asked, W, rows⟩) = ( (decide ((↑n : Int) < IntKind.i64.wrap ((IntKind.u64.wrap w).tmod 60)) = true →
 ∃ (s : (dM p).St), p = p ∧ rd = s.rd ∧ rs = s.rs ∧ ws = s.ws ∧ W = s.W ∧ Z39 (steps = s.steps ∧ Q 32 ∧ filtT ws = filtT s.ws ∧ asked = s.asked ∧ Z100 (value = s.value ∧ a = s.a ∧ (↑i : Int) = (↑s.i : Int) ∧ Z16 ((dM p).I
 s ∧ (∀ (y : (oMN p).St), (oMN p).I s y → ∃ (s : US), w = w ∧ Z2 (y.W = s.W ∧ y.steps = s.steps ∧ Z7 (y.rs = s.rs ∧ Q 32 ∧ y.ws = s.ws ∧ filtT y.ws = filtT s.ws ∧ y.asked = s.asked ∧ Z101 (y.value = s.value ∧ p = p ∧
 (↑y.i : Int) = (↑s.i : Int) ∧ Z102 (y.rd = s.rd ∧ Q 9 ∧ IntKind.i64.wrap ((↑n : Int) + 1) = (↑s.n : Int) ∧ ((shN p).I s ∧ s.n ≤ 60) ∧ (1000000 : Nat) - s.n < 1000000 - n ∧ True))))) ∧ True)))) ∧ (decide ((↑n : Int) <
 IntKind.i64.wrap ((IntKind.u64.wrap w).tmod 60)) = false → badD.pre (Mw.mk (W), (9 : Int), ()) ∧ Bk 9 (W) ∧ Bk 9 (W) ∧ Bk 9 (W) ∧ Bk 9 (W) ∧ ∃ (s : US), Z2 ((W).set (9 : Nat) (1 : Int) = s.W ∧ IntKind.i64.wrap (steps +
 1) = s.steps ∧ Z7 (rs = s.rs ∧ Q 32 ∧ ws = s.ws ∧ filtT ws = filtT s.ws ∧ asked = s.asked ∧ Z98 (value = s.value ∧ a = s.a ∧ p = p ∧ (↑i : Int) = (↑s.i : Int) ∧ Z16 (rd = s.rd ∧ Qb true ∧ (0 : Int) = (↑s.n : Int) ∧ ((shM
 p).I s ∧ s.n + (shM p).R s ≤ 200) ∧ (10000 : Nat) - s.n < 1000000 - n ∧ True)))))) := by kernel_rfl
theorem wa_1M_ok (l p : List Op) (cl w : Int) (s : US) (hI : (cut1 w (shM p) (ob3 p)).I s) : Paid (cW l p cl w 19 (cut1 w (shM p) (ob3 p)) s) := by
  obtain ⟨n, i, rd, rs, ws, xi, a, c, bk, value, steps, asked, W, rows⟩ := s
  have hI0 := hI
  obtain ⟨hS, _⟩ := hI
  obtain ⟨⟨⟨⟨hpO, hc, hi, hrd, hrs, hws, hwd, hrr⟩, hnod⟩, ⟨he, hW⟩, hx⟩, hn⟩ := hI0
  have he : i = p.length + 1 := he
  have hW : W.length = 34 := hW
  have hdone : DoneL 100 ws W := hx
  have hc : c = 1 ∨ c = 2 := hc
  have hi : i ≤ p.length + 1 := hi
  have hrd : rd.length ≤ i := hrd
  have hrs : rs.length ≤ i := hrs
  have hws : ws.length ≤ i := hws
  have hwd : ∀ w ∈ ws, isData w.pl := hwd
  have hrr : ∀ w ∈ rs, 0 ≤ w.pl ∧ w.pl < 3 := hrr
  have hB : ∀ {n xi : Nat} {a bk value steps asked : Int} {W rows : List Int}, baseI p ⟨n, i, rd, rs, ws, xi, a, c, bk, value, steps, asked, W, rows⟩ := mkBase hpO hc hi hrd hrs hws hwd hrr
  have hp8 := hpO.1
  have hn : n ≤ 60 := hn
  have hw60 := when_lt w
  refine ⟨?_⟩
  rw [wa_1M]
  refine ⟨?_, ?_⟩
  · intro h1
    replace h1 := of_decide_eq_true h1
    first
    | (exfalso; omega)
    | (refine ⟨⟨0, i, rd, rs, ws, xi, a, c, bk, value, steps, asked, W, rows⟩, ⟨rfl, rfl, rfl, rfl, rfl, t39 ⟨rfl, rfl, rfl, rfl, t100 ⟨rfl, rfl, rfl, t16 ⟨⟨hS, (show 0 ≤ 1 by decide)⟩, ?_, trivial⟩⟩⟩⟩⟩
       intro y hy2_
       obtain ⟨_, hy1, hyn, hyR⟩ := hy2_
       have hyn : y.n = 0 := hyn
       have hyR : 0 < 10 := hyR
       exact ⟨⟨n + 1, y.i, y.rd, y.rs, y.ws, y.xi, y.a, y.c, y.bk, y.value, y.steps, y.asked, y.W, y.rows⟩, ⟨rfl, t2 ⟨rfl, rfl, t7 ⟨rfl, rfl, rfl, rfl, rfl, t101 ⟨rfl, rfl, rfl, t102 ⟨rfl, rfl, (wN (by omega)), ⟨hy1, (show (n + 1) ≤ (60 : Nat) by omega)⟩, (mN hn), trivial⟩⟩⟩⟩⟩⟩)
  · intro h3
    replace h3 := of_decide_eq_false h3
    first
    | (exfalso; omega)
    | (refine ⟨(And.intro (show (0 : Int) ≤ (9 : Int) from (by decide)) (show (9 : Int) < ((Mw.mk (W)).ws.length : Int) from (by rw [hW]; decide))), ?_, ?_, ?_, ?_, ?_⟩
       · exact ⟨(by decide), (by rw [hW]; decide)⟩
       · exact ⟨(by decide), (by rw [hW]; decide)⟩
       · exact ⟨(by decide), (by rw [hW]; decide)⟩
       · exact ⟨(by decide), (by rw [hW]; decide)⟩
       · exact ⟨⟨0, i, rd, rs, ws, xi, a, c, bk, value, IntKind.i64.wrap (steps + (1 : Int)), asked, (W).set (9 : Nat) (1 : Int), rows⟩, (t2 ⟨rfl, rfl, t7 ⟨rfl, rfl, rfl, rfl, rfl, t98 ⟨rfl, rfl, rfl, rfl, t16 ⟨rfl, rfl, rfl, ⟨⟨(mkBW hB hnod), ⟨he, (by rw [List.length_set]; exact hW)⟩, (done_low hW hwd hdone 1 (by decide))⟩, (show 0 + (10) ≤ 200 by omega)⟩, (show (10000 : Nat) - (0) < (1000000 : Nat) - n by omega), trivial⟩⟩⟩⟩)⟩)
theorem wa_1N : Go.Sy.Tree.holds (cW l p cl w 19 (cut1 w (shN p) (ob3 p)) ⟨n, i, rd, rs, ws, xi, a, c, bk, value, steps, asked, W, rows⟩) = ( (decide ((↑n : Int) < IntKind.i64.wrap ((IntKind.u64.wrap w).tmod 60)) = true →
 badD.pre (Mw.mk (W), (9 : Int), ()) ∧ Bk 9 (W) ∧ Bk 9 (W) ∧ Bk 9 (W) ∧ Bk 9 (W) ∧ ∃ (s : US), Z2 ((W).set (9 : Nat) (1 : Int) = s.W ∧ IntKind.i64.wrap (steps + 1) = s.steps ∧ Z7 (rs = s.rs ∧ Q 32 ∧ ws = s.ws ∧ filtT ws =
 filtT s.ws ∧ asked = s.asked ∧ Z101 (value = s.value ∧ p = p ∧ (↑i : Int) = (↑s.i : Int) ∧ Z102 (rd = s.rd ∧ Qb true ∧ (0 : Int) = (↑s.n : Int) ∧ ((shN p).I s ∧ s.n + (shN p).R s ≤ 200) ∧ (10000 : Nat) - s.n < 1000000 -
 n ∧ True))))) ∧ (decide ((↑n : Int) < IntKind.i64.wrap ((IntKind.u64.wrap w).tmod 60)) = false → badD.pre (Mw.mk (W), (9 : Int), ()) ∧ Bk 9 (W) ∧ Bk 9 (W) ∧ Bk 9 (W) ∧ Bk 9 (W) ∧ ∃ (s : US), Z2 ((W).set (9 : Nat) (1 :
 Int) = s.W ∧ IntKind.i64.wrap (steps + 1) = s.steps ∧ Z7 (rs = s.rs ∧ Q 32 ∧ ws = s.ws ∧ filtT ws = filtT s.ws ∧ asked = s.asked ∧ Z101 (value = s.value ∧ p = p ∧ (↑i : Int) = (↑s.i : Int) ∧ Z102 (rd = s.rd ∧ Qb true ∧
 (0 : Int) = (↑s.n : Int) ∧ ((shN p).I s ∧ s.n + (shN p).R s ≤ 200) ∧ (10000 : Nat) - s.n < 1000000 - n ∧ True)))))) := by kernel_rfl
theorem wa_1N_ok (l p : List Op) (cl w : Int) (s : US) (hI : (cut1 w (shN p) (ob3 p)).I s) : Paid (cW l p cl w 19 (cut1 w (shN p) (ob3 p)) s) := by
  obtain ⟨n, i, rd, rs, ws, xi, a, c, bk, value, steps, asked, W, rows⟩ := s
  obtain ⟨⟨⟨⟨hpO, hc, hi, hrd, hrs, hws, hwd, hrr⟩, hnod⟩, ⟨he, hW⟩, hdone⟩, hn⟩ := hI
  have hW : W.length = 34 := hW
  have hdone : DoneL 100 ws W := hdone
  have he : i = p.length + 1 := he
  have hi : i ≤ p.length + 1 := hi
  have hrs : rs.length ≤ i := hrs
  have hws : ws.length ≤ i := hws
  have hwd : ∀ w ∈ ws, isData w.pl := hwd
  have hB : ∀ {n xi : Nat} {a bk value steps asked : Int} {W rows : List Int}, baseI p ⟨n, i, rd, rs, ws, xi, a, c, bk, value, steps, asked, W, rows⟩ := mkBase hpO hc hi hrd hrs hws hwd hrr
  have hp8 := hpO.1
  have hn : n ≤ 60 := hn
  have hw60 := when_lt w
  refine ⟨?_⟩
  rw [wa_1N]
  refine ⟨?_, ?_⟩
  · intro h1
    replace h1 := of_decide_eq_true h1
    first
    | (exfalso; omega)
    | (refine ⟨(And.intro (show (0 : Int) ≤ (9 : Int) from (by decide)) (show (9 : Int) < ((Mw.mk (W)).ws.length : Int) from (by rw [hW]; decide))), ?_, ?_, ?_, ?_, ?_⟩
       · exact ⟨(by decide), (by rw [hW]; decide)⟩
       · exact ⟨(by decide), (by rw [hW]; decide)⟩
       · exact ⟨(by decide), (by rw [hW]; decide)⟩
       · exact ⟨(by decide), (by rw [hW]; decide)⟩
       · exact ⟨⟨0, i, rd, rs, ws, xi, a, c, bk, value, IntKind.i64.wrap (steps + (1 : Int)), asked, (W).set (9 : Nat) (1 : Int), rows⟩, (t2 ⟨rfl, rfl, t7 ⟨rfl, rfl, rfl, rfl, rfl, t101 ⟨rfl, rfl, rfl, t102 ⟨rfl, rfl, rfl, ⟨⟨(mkBW hB hnod), ⟨he, (by rw [List.length_set]; exact hW)⟩, (done_low hW hwd hdone 1 (by decide))⟩, (show 0 + (0) ≤ 200 by omega)⟩, (show (10000 : Nat) - (0) < (1000000 : Nat) - n by omega), trivial⟩⟩⟩⟩)⟩)
  · intro h2
    replace h2 := of_decide_eq_false h2
    first
    | (exfalso; omega)
    | (refine ⟨(And.intro (show (0 : Int) ≤ (9 : Int) from (by decide)) (show (9 : Int) < ((Mw.mk (W)).ws.length : Int) from (by rw [hW]; decide))), ?_, ?_, ?_, ?_, ?_⟩
       · exact ⟨(by decide), (by rw [hW]; decide)⟩
       · exact ⟨(by decide), (by rw [hW]; decide)⟩
       · exact ⟨(by decide), (by rw [hW]; decide)⟩
       · exact ⟨(by decide), (by rw [hW]; decide)⟩
       · exact ⟨⟨0, i, rd, rs, ws, xi, a, c, bk, value, IntKind.i64.wrap (steps + (1 : Int)), asked, (W).set (9 : Nat) (1 : Int), rows⟩, (t2 ⟨rfl, rfl, t7 ⟨rfl, rfl, rfl, rfl, rfl, t101 ⟨rfl, rfl, rfl, t102 ⟨rfl, rfl, rfl, ⟨⟨(mkBW hB hnod), ⟨he, (by rw [List.length_set]; exact hW)⟩, (done_low hW hwd hdone 1 (by decide))⟩, (show 0 + (0) ≤ 200 by omega)⟩, (show (10000 : Nat) - (0) < (1000000 : Nat) - n by omega), trivial⟩⟩⟩⟩)⟩)
end Go.Proofs.Ytmjjljngaefpaaa

/- Tl2Watch: its loops, from each state. -/
import Derived.Test.YtmjjljngaefpaaaWf
namespace Go.Proofs.Ytmjjljngaefpaaa
open Go.RowKit Go.Am Go.Sy
set_option linter.unusedVariables false
set_option linter.unusedSimpArgs false
variable (l p : List Op) (cl w : Int) (n i : Nat) (rd rs ws : List Wo) (xi : Nat) (a c bk value steps asked : Int) (W rows : List Int)
theorem wa_2A : Go.Sy.Tree.holds (cW l p cl w 25 (cut2 false (shA p 1) (ob0 p)) ⟨n, i, rd, rs, ws, xi, a, c, bk, value, steps, asked, W, rows⟩) = ( (decide ((↑n : Int) < 200) = true → ∃ (s : (dA p).St), p = p ∧ rd = s.rd
 ∧ rs = s.rs ∧ ws = s.ws ∧ wV (1 : Int) 0 0 0 0 0 = wV (↑s.n : Int) 0 0 0 0 0 ∧ wat = wat ∧ Z39 (steps = s.steps ∧ Q 32 ∧ filtT ws = filtT s.ws ∧ asked = s.asked ∧ Z40 (c = s.c ∧ Z75 (value = s.value ∧ Z5 ((↑i : Int) =
 (↑s.i : Int) ∧ Z46 ((dA p).I s ∧ (∀ (y : (oAB p).St), (oAB p).I s y → ∃ (s : US), Z2 (wV (↑y.n : Int) 0 0 0 0 0 = wV (1 : Int) 0 0 0 0 0 ∧ y.steps = s.steps ∧ Z8 (y.c = s.c ∧ Z9 (y.rs = s.rs ∧ Q 32 ∧ y.ws = s.ws ∧ filtT
 y.ws = filtT s.ws ∧ y.asked = s.asked ∧ wat = wat ∧ Z81 (y.a = s.a ∧ hashT y.a = hashT s.a ∧ Q 0 ∧ y.value = s.value ∧ Z5 (p = p ∧ (↑y.i : Int) = (↑s.i : Int) ∧ Z16 (y.rd = s.rd ∧ Qb false ∧ IntKind.i64.wrap ((↑n : Int)
 + 1) = (↑s.n : Int) ∧ ((shB p (1 : Int)).I s ∧ s.n + (shB p (1 : Int)).R s ≤ 200) ∧ (10000 : Nat) - s.n < 10000 - n ∧ True))))))) ∧ (∀ (y : (oAE p).St), (oAE p).I s y → ∃ (s : US), Z2 (wRv (↑y.n : Int) 0 2 (List.take
 y.xi y.rows) = wRv (1 : Int) 0 2 (List.take s.xi s.rows) ∧ y.steps = s.steps ∧ Z8 (y.c = s.c ∧ Z9 (y.rs = s.rs ∧ Q 32 ∧ y.ws = s.ws ∧ filtT y.ws = filtT s.ws ∧ y.asked = s.asked ∧ wat = wat ∧ Z82 ((↑y.xi : Int) = (↑s.xi
 : Int) ∧ y.value = s.value ∧ Z19 (y.bk = s.bk ∧ Z20 (y.rows = s.rows ∧ [] = takT (List.take s.xi s.rows) ∧ Qb true ∧ p = p ∧ (↑y.i : Int) = (↑s.i : Int) ∧ Z16 (y.rd = s.rd ∧ Qb false ∧ IntKind.i64.wrap ((↑n : Int) + 1) =
 (↑s.n : Int) ∧ ((shE p (1 : Int)).I s ∧ s.n + (shE p (1 : Int)).R s ≤ 200) ∧ (10000 : Nat) - s.n < 10000 - n ∧ True)))))))) ∧ (∀ (y : (oAJ p).St), (oAJ p).I s y → ∃ (s : US), Z2 (wRv (↑y.n : Int) y.a (2 : Int) y.rows =
 wRv (1 : Int) s.a (2 : Int) s.rows ∧ y.steps = s.steps ∧ Z8 (y.c = s.c ∧ Z9 (y.rs = s.rs ∧ Q 32 ∧ y.ws = s.ws ∧ filtT y.ws = filtT s.ws ∧ y.asked = s.asked ∧ wat = wat ∧ Z83 (y.value = s.value ∧ y.a = s.a ∧ [] = s.rows ∧
 [] = takT s.rows ∧ Qb true ∧ p = p ∧ (↑y.i : Int) = (↑s.i : Int) ∧ Z16 (y.rd = s.rd ∧ Qb false ∧ IntKind.i64.wrap ((↑n : Int) + 1) = (↑s.n : Int) ∧ ((shJ p (1 : Int)).I s ∧ s.n + (shJ p (1 : Int)).R s ≤ 200) ∧ (10000 :
 Nat) - s.n < 10000 - n ∧ True)))))) ∧ True)))))) ∧ (decide ((↑n : Int) < 200) = false → keysD.pre (Rs.mk (32 : Int) rs, ()) ∧ ws.length * 16 ≤ 140737488355328 ∧ ∃ (s : US), wV (1 : Int) 0 0 0 0 0 = wV (1 : Int) s.a (0 :
 Int) (0 : Int) (0 : Int) (0 : Int) ∧ steps = s.steps ∧ Stuck "le: a")) := by kernel_rfl
theorem wa_2A_ok (l p : List Op) (cl w : Int) (s : US) (hI : (cut2 false (shA p 1) (ob0 p)).I s) : Paid (cW l p cl w 25 (cut2 false (shA p 1) (ob0 p)) s) := by
  obtain ⟨n, i, rd, rs, ws, xi, a, c, bk, value, steps, asked, W, rows⟩ := s
  obtain ⟨hS, hn⟩ := hI
  have hn : n + (60 + 5 * (10 - i)) ≤ 200 := hn
  refine ⟨?_⟩
  rw [wa_2A]
  refine ⟨?_, ?_⟩
  · intro h1
    replace h1 := of_decide_eq_true h1
    first
    | (exfalso; omega)
    | (refine ⟨⟨1, i, rd, rs, ws, xi, a, c, bk, value, steps, asked, W, rows⟩, ⟨rfl, rfl, rfl, rfl, rfl, rfl, t39 ⟨rfl, rfl, rfl, rfl, t40 ⟨rfl, t75 ⟨rfl, t5 ⟨rfl, t46 ⟨⟨hS, (show 1 ≤ 1 by decide)⟩, ?_, ?_, ?_, trivial⟩⟩⟩⟩⟩⟩⟩
       · intro y hy2_
         obtain ⟨_, hy1, hyn, hyR⟩ := hy2_
         have hyn : y.n = 1 := hyn
         have hyR : 59 + 5 * (10 - y.i) < 60 + 5 * (10 - i) := hyR
         exact ⟨⟨n + 1, y.i, y.rd, y.rs, y.ws, y.xi, y.a, y.c, y.bk, y.value, y.steps, y.asked, y.W, y.rows⟩, (t2 ⟨(by rw [hyn]; rfl), rfl, t8 ⟨rfl, t9 ⟨rfl, rfl, rfl, rfl, rfl, rfl, t81 ⟨rfl, rfl, rfl, rfl, t5 ⟨rfl, rfl, t16 ⟨rfl, rfl, (wN (by omega)), ⟨hy1, (show n + 1 + (59 + 5 * (10 - y.i)) ≤ 200 by omega)⟩, (show (10000 : Nat) - (n + 1) < (10000 : Nat) - n by omega), trivial⟩⟩⟩⟩⟩⟩)⟩
       · intro y hy3_
         obtain ⟨_, hy1, hyn, hyR⟩ := hy3_
         have hyn : y.n = 1 := hyn
         have hyR : 55 - 2 * y.xi < 60 + 5 * (10 - i) := hyR
         exact ⟨⟨n + 1, y.i, y.rd, y.rs, y.ws, y.xi, y.a, y.c, y.bk, y.value, y.steps, y.asked, y.W, y.rows⟩, (t2 ⟨(by rw [hyn]; rfl), rfl, t8 ⟨rfl, t9 ⟨rfl, rfl, rfl, rfl, rfl, rfl, t82 ⟨rfl, rfl, t19 ⟨rfl, t20 ⟨rfl, (lat_tak hy1.2).symm, rfl, rfl, rfl, t16 ⟨rfl, rfl, (wN (by omega)), ⟨hy1.1, (show n + 1 + (55 - 2 * y.xi) ≤ 200 by omega)⟩, (show (10000 : Nat) - (n + 1) < (10000 : Nat) - n by omega), trivial⟩⟩⟩⟩⟩⟩⟩)⟩
       · intro y hy4_
         obtain ⟨_, hy1, hyn, hyR⟩ := hy4_
         have hyn : y.n = 1 := hyn
         have hyR : 30 < 60 + 5 * (10 - i) := hyR
         have hyr : y.rows = [] := by rw [show y.rows = rowsT (y.ws.map (·.pl)) from hy1.1.2.2.1, show y.ws = [] from hy1.2]; rfl
         exact ⟨⟨n + 1, y.i, y.rd, y.rs, y.ws, y.xi, y.a, y.c, y.bk, y.value, y.steps, y.asked, y.W, y.rows⟩, (t2 ⟨(by rw [hyn]; rfl), rfl, t8 ⟨rfl, t9 ⟨rfl, rfl, rfl, rfl, rfl, rfl, t83 ⟨rfl, rfl, hyr.symm, (by rw [hyr]; rfl), rfl, rfl, rfl, t16 ⟨rfl, rfl, (wN (by omega)), ⟨hy1.1, (show n + 1 + (30) ≤ 200 by omega)⟩, (show (10000 : Nat) - (n + 1) < (10000 : Nat) - n by omega), trivial⟩⟩⟩⟩⟩)⟩)
  · intro h5
    replace h5 := of_decide_eq_false h5
    first
    | (exfalso; omega)
    | (refine ⟨(show rs.length ≤ 1000 by omega), (show ws.length * (16 : Nat) ≤ (140737488355328 : Nat) by omega), ?_⟩
       exact ⟨⟨n, i, rd, rs, ws, xi, (0 : Int), c, bk, value, steps, asked, W, rows⟩, ⟨rfl, rfl, (by exfalso; omega)⟩⟩)
theorem wa_2B : Go.Sy.Tree.holds (cW l p cl w 25 (cut2 false (shB p 1) (ob0 p)) ⟨n, i, rd, rs, ws, xi, a, c, bk, value, steps, asked, W, rows⟩) = ( (decide ((↑n : Int) < 200) = true → ∃ (s : (dB p).St), p = p ∧ rd = s.rd
 ∧ rs = s.rs ∧ ws = s.ws ∧ wV (1 : Int) 0 0 0 0 0 = wV (↑s.n : Int) 0 0 0 0 0 ∧ wat = wat ∧ Z39 (steps = s.steps ∧ Q 32 ∧ filtT ws = filtT s.ws ∧ asked = s.asked ∧ Z40 (c = s.c ∧ Z85 (a = s.a ∧ hashT a = hashT s.a ∧ Q 0 ∧
 value = s.value ∧ Z5 ((↑i : Int) = (↑s.i : Int) ∧ Z16 ((dB p).I s ∧ (∀ (y : (oBC p).St), (oBC p).I s y → ∃ (s : US), Z2 (wV (↑y.n : Int) 0 0 0 0 0 = wV (1 : Int) 0 0 0 0 0 ∧ y.steps = s.steps ∧ Z8 (y.c = s.c ∧ Z9 (y.rs =
 s.rs ∧ Q 32 ∧ y.ws = s.ws ∧ filtT y.ws = filtT s.ws ∧ y.asked = s.asked ∧ wat = wat ∧ Z86 (y.a = s.a ∧ hashT y.a = hashT s.a ∧ Z19 (y.value = s.value ∧ Z5 (p = p ∧ (↑y.i : Int) = (↑s.i : Int) ∧ Z16 (y.rd = s.rd ∧ Qb
 false ∧ IntKind.i64.wrap ((↑n : Int) + 1) = (↑s.n : Int) ∧ ((shC p (1 : Int)).I s ∧ s.n + (shC p (1 : Int)).R s ≤ 200) ∧ (10000 : Nat) - s.n < 10000 - n ∧ True)))))))) ∧ True)))))) ∧ (decide ((↑n : Int) < 200) = false →
 keysD.pre (Rs.mk (32 : Int) rs, ()) ∧ ws.length * 16 ≤ 140737488355328 ∧ ∃ (s : US), wV (1 : Int) 0 0 0 0 0 = wV (1 : Int) s.a (0 : Int) (0 : Int) (0 : Int) (0 : Int) ∧ steps = s.steps ∧ Stuck "le: a")) := by kernel_rfl
theorem wa_2B_ok (l p : List Op) (cl w : Int) (s : US) (hI : (cut2 false (shB p 1) (ob0 p)).I s) : Paid (cW l p cl w 25 (cut2 false (shB p 1) (ob0 p)) s) := by
  obtain ⟨n, i, rd, rs, ws, xi, a, c, bk, value, steps, asked, W, rows⟩ := s
  obtain ⟨hS, hn⟩ := hI
  have hn : n + (59 + 5 * (10 - i)) ≤ 200 := hn
  refine ⟨?_⟩
  rw [wa_2B]
  refine ⟨?_, ?_⟩
  · intro h1
    replace h1 := of_decide_eq_true h1
    first
    | (exfalso; omega)
    | (refine ⟨⟨1, i, rd, rs, ws, xi, a, c, bk, value, steps, asked, W, rows⟩, ⟨rfl, rfl, rfl, rfl, rfl, rfl, t39 ⟨rfl, rfl, rfl, rfl, t40 ⟨rfl, t85 ⟨rfl, rfl, rfl, rfl, t5 ⟨rfl, t16 ⟨⟨hS, (show 1 ≤ 1 by decide)⟩, ?_, trivial⟩⟩⟩⟩⟩⟩⟩
       intro y hy2_
       obtain ⟨_, hy1, hyn, hyR⟩ := hy2_
       have hyn : y.n = 1 := hyn
       have hyR : 58 + 5 * (10 - y.i) < 59 + 5 * (10 - i) := hyR
       exact ⟨⟨n + 1, y.i, y.rd, y.rs, y.ws, y.xi, y.a, y.c, y.bk, y.value, y.steps, y.asked, y.W, y.rows⟩, (t2 ⟨(by rw [hyn]; rfl), rfl, t8 ⟨rfl, t9 ⟨rfl, rfl, rfl, rfl, rfl, rfl, t86 ⟨rfl, rfl, t19 ⟨rfl, t5 ⟨rfl, rfl, t16 ⟨rfl, rfl, (wN (by omega)), ⟨hy1, (show n + 1 + (58 + 5 * (10 - y.i)) ≤ 200 by omega)⟩, (show (10000 : Nat) - (n + 1) < (10000 : Nat) - n by omega), trivial⟩⟩⟩⟩⟩⟩⟩)⟩)
  · intro h3
    replace h3 := of_decide_eq_false h3
    first
    | (exfalso; omega)
    | (refine ⟨(show rs.length ≤ 1000 by omega), (show ws.length * (16 : Nat) ≤ (140737488355328 : Nat) by omega), ?_⟩
       exact ⟨⟨n, i, rd, rs, ws, xi, (0 : Int), c, bk, value, steps, asked, W, rows⟩, ⟨rfl, rfl, (by exfalso; omega)⟩⟩)
theorem wa_2C : Go.Sy.Tree.holds (cW l p cl w 25 (cut2 false (shC p 1) (ob0 p)) ⟨n, i, rd, rs, ws, xi, a, c, bk, value, steps, asked, W, rows⟩) = ( (decide ((↑n : Int) < 200) = true → ∃ (s : (dC p).St), p = p ∧ rd = s.rd
 ∧ rs = s.rs ∧ ws = s.ws ∧ wV (1 : Int) 0 0 0 0 0 = wV (↑s.n : Int) 0 0 0 0 0 ∧ wat = wat ∧ Z39 (steps = s.steps ∧ Q 32 ∧ filtT ws = filtT s.ws ∧ asked = s.asked ∧ Z40 (c = s.c ∧ Z87 (a = s.a ∧ hashT a = hashT s.a ∧ Z19
 (value = s.value ∧ Z5 ((↑i : Int) = (↑s.i : Int) ∧ Z16 ((dC p).I s ∧ (∀ (y : (oCD p).St), (oCD p).I s y → ∃ (s : US), Z2 (wV (↑y.n : Int) 0 0 0 0 0 = wV (1 : Int) 0 0 0 0 0 ∧ y.steps = s.steps ∧ Z8 (y.c = s.c ∧ Z9 (y.rs
 = s.rs ∧ Q 32 ∧ y.ws = s.ws ∧ filtT y.ws = filtT s.ws ∧ y.asked = s.asked ∧ wat = wat ∧ Z88 (y.a = s.a ∧ hashT y.a = hashT s.a ∧ Q 0 ∧ y.value = s.value ∧ Z5 (p = p ∧ (↑y.i : Int) = (↑s.i : Int) ∧ Z16 (y.rd = s.rd ∧ Qb
 false ∧ IntKind.i64.wrap ((↑n : Int) + 1) = (↑s.n : Int) ∧ ((shD p (1 : Int)).I s ∧ s.n + (shD p (1 : Int)).R s ≤ 200) ∧ (10000 : Nat) - s.n < 10000 - n ∧ True))))))) ∧ True))))))) ∧ (decide ((↑n : Int) < 200) = false →
 keysD.pre (Rs.mk (32 : Int) rs, ()) ∧ ws.length * 16 ≤ 140737488355328 ∧ ∃ (s : US), wV (1 : Int) 0 0 0 0 0 = wV (1 : Int) s.a (0 : Int) (0 : Int) (0 : Int) (0 : Int) ∧ steps = s.steps ∧ Stuck "le: a")) := by kernel_rfl
theorem wa_2C_ok (l p : List Op) (cl w : Int) (s : US) (hI : (cut2 false (shC p 1) (ob0 p)).I s) : Paid (cW l p cl w 25 (cut2 false (shC p 1) (ob0 p)) s) := by
  obtain ⟨n, i, rd, rs, ws, xi, a, c, bk, value, steps, asked, W, rows⟩ := s
  obtain ⟨hS, hn⟩ := hI
  have hn : n + (58 + 5 * (10 - i)) ≤ 200 := hn
  refine ⟨?_⟩
  rw [wa_2C]
  refine ⟨?_, ?_⟩
  · intro h1
    replace h1 := of_decide_eq_true h1
    first
    | (exfalso; omega)
    | (refine ⟨⟨1, i, rd, rs, ws, xi, a, c, bk, value, steps, asked, W, rows⟩, ⟨rfl, rfl, rfl, rfl, rfl, rfl, t39 ⟨rfl, rfl, rfl, rfl, t40 ⟨rfl, t87 ⟨rfl, rfl, t19 ⟨rfl, t5 ⟨rfl, t16 ⟨⟨hS, (show 1 ≤ 1 by decide)⟩, ?_, trivial⟩⟩⟩⟩⟩⟩⟩⟩
       intro y hy2_
       obtain ⟨_, hy1, hyn, hyR⟩ := hy2_
       have hyn : y.n = 1 := hyn
       have hyR : 57 + 5 * (10 - y.i) < 58 + 5 * (10 - i) := hyR
       exact ⟨⟨n + 1, y.i, y.rd, y.rs, y.ws, y.xi, y.a, y.c, y.bk, y.value, y.steps, y.asked, y.W, y.rows⟩, (t2 ⟨(by rw [hyn]; rfl), rfl, t8 ⟨rfl, t9 ⟨rfl, rfl, rfl, rfl, rfl, rfl, t88 ⟨rfl, rfl, rfl, rfl, t5 ⟨rfl, rfl, t16 ⟨rfl, rfl, (wN (by omega)), ⟨hy1, (show n + 1 + (57 + 5 * (10 - y.i)) ≤ 200 by omega)⟩, (show (10000 : Nat) - (n + 1) < (10000 : Nat) - n by omega), trivial⟩⟩⟩⟩⟩⟩)⟩)
  · intro h3
    replace h3 := of_decide_eq_false h3
    first
    | (exfalso; omega)
    | (refine ⟨(show rs.length ≤ 1000 by omega), (show ws.length * (16 : Nat) ≤ (140737488355328 : Nat) by omega), ?_⟩
       exact ⟨⟨n, i, rd, rs, ws, xi, (0 : Int), c, bk, value, steps, asked, W, rows⟩, ⟨rfl, rfl, (by exfalso; omega)⟩⟩)
theorem wa_2D : Go.Sy.Tree.holds (cW l p cl w 25 (cut2 false (shD p 1) (ob0 p)) ⟨n, i, rd, rs, ws, xi, a, c, bk, value, steps, asked, W, rows⟩) = ( (decide ((↑n : Int) < 200) = true → ∃ (s : (dD p).St), p = p ∧ rd = s.rd
 ∧ rs = s.rs ∧ ws = s.ws ∧ wV (1 : Int) 0 0 0 0 0 = wV (↑s.n : Int) 0 0 0 0 0 ∧ wat = wat ∧ Z39 (steps = s.steps ∧ Q 32 ∧ filtT ws = filtT s.ws ∧ asked = s.asked ∧ Z40 (c = s.c ∧ Z89 (a = s.a ∧ hashT a = hashT s.a ∧ Q 0 ∧
 value = s.value ∧ Z5 ((↑i : Int) = (↑s.i : Int) ∧ Z16 ((dD p).I s ∧ (∀ (y : (oDA p).St), (oDA p).I s y → ∃ (s : US), Z2 (wV (↑y.n : Int) 0 0 0 0 0 = wV (1 : Int) 0 0 0 0 0 ∧ y.steps = s.steps ∧ Z8 (y.c = s.c ∧ Z9 (y.rs =
 s.rs ∧ Q 32 ∧ y.ws = s.ws ∧ filtT y.ws = filtT s.ws ∧ y.asked = s.asked ∧ wat = wat ∧ Z84 (y.value = s.value ∧ Z5 (p = p ∧ (↑y.i : Int) = (↑s.i : Int) ∧ Z46 (y.rd = s.rd ∧ Qb false ∧ IntKind.i64.wrap ((↑n : Int) + 1) =
 (↑s.n : Int) ∧ ((shA p (1 : Int)).I s ∧ s.n + (shA p (1 : Int)).R s ≤ 200) ∧ (10000 : Nat) - s.n < 10000 - n ∧ True))))))) ∧ (∀ (y : (oDQ p).St), (oDQ p).I s y → ∃ (s : US), Z2 (wV (1 : Int) y.a (0 : Int) (0 : Int) (0 :
 Int) (0 : Int) = wV (1 : Int) s.a (0 : Int) (0 : Int) (0 : Int) (0 : Int) ∧ y.steps = s.steps ∧ Z7 (y.rs = s.rs ∧ Q 32 ∧ y.ws = s.ws ∧ filtT y.ws = filtT s.ws ∧ y.asked = s.asked ∧ Z103 (p = p ∧ Q 2 ∧ y.rd = s.rd ∧ Qb
 false ∧ IntKind.i64.wrap ((↑n : Int) + 1) = (↑s.n : Int) ∧ ((shQ p).I s ∧ s.n + (shQ p).R s ≤ 200) ∧ (10000 : Nat) - s.n < 10000 - n ∧ True)))) ∧ True)))))) ∧ (decide ((↑n : Int) < 200) = false → keysD.pre (Rs.mk (32 :
 Int) rs, ()) ∧ ws.length * 16 ≤ 140737488355328 ∧ ∃ (s : US), wV (1 : Int) 0 0 0 0 0 = wV (1 : Int) s.a (0 : Int) (0 : Int) (0 : Int) (0 : Int) ∧ steps = s.steps ∧ Stuck "le: a")) := by kernel_rfl
theorem wa_2D_ok (l p : List Op) (cl w : Int) (s : US) (hI : (cut2 false (shD p 1) (ob0 p)).I s) : Paid (cW l p cl w 25 (cut2 false (shD p 1) (ob0 p)) s) := by
  obtain ⟨n, i, rd, rs, ws, xi, a, c, bk, value, steps, asked, W, rows⟩ := s
  obtain ⟨hS, hn⟩ := hI
  have hn : n + (57 + 5 * (10 - i)) ≤ 200 := hn
  refine ⟨?_⟩
  rw [wa_2D]
  refine ⟨?_, ?_⟩
  · intro h1
    replace h1 := of_decide_eq_true h1
    first
    | (exfalso; omega)
    | (refine ⟨⟨1, i, rd, rs, ws, xi, a, c, bk, value, steps, asked, W, rows⟩, ⟨rfl, rfl, rfl, rfl, rfl, rfl, t39 ⟨rfl, rfl, rfl, rfl, t40 ⟨rfl, t89 ⟨rfl, rfl, rfl, rfl, t5 ⟨rfl, t16 ⟨⟨hS, (show 1 ≤ 1 by decide)⟩, ?_, ?_, trivial⟩⟩⟩⟩⟩⟩⟩
       · intro y hy2_
         exact absurd (show (1 : Nat) = 0 from hy2_.1) (by decide)
       · intro y hy3_
         obtain ⟨_, hy1, hyn, hyR⟩ := hy3_
         have hyn : y.n = 1 := hyn
         have hyR : 0 < 57 + 5 * (10 - i) := hyR
         exact ⟨⟨n + 1, y.i, y.rd, y.rs, y.ws, y.xi, y.a, y.c, y.bk, y.value, y.steps, y.asked, y.W, y.rows⟩, (t2 ⟨rfl, rfl, t7 ⟨rfl, rfl, rfl, rfl, rfl, t103 ⟨rfl, rfl, rfl, rfl, (wN (by omega)), ⟨hy1, (show n + 1 + (0) ≤ 200 by omega)⟩, (show (10000 : Nat) - (n + 1) < (10000 : Nat) - n by omega), trivial⟩⟩⟩)⟩)
  · intro h4
    replace h4 := of_decide_eq_false h4
    first
    | (exfalso; omega)
    | (refine ⟨(show rs.length ≤ 1000 by omega), (show ws.length * (16 : Nat) ≤ (140737488355328 : Nat) by omega), ?_⟩
       exact ⟨⟨n, i, rd, rs, ws, xi, (0 : Int), c, bk, value, steps, asked, W, rows⟩, ⟨rfl, rfl, (by exfalso; omega)⟩⟩)
theorem wa_2E : Go.Sy.Tree.holds (cW l p cl w 25 (cut2 false (shE p 1) (obT p)) ⟨n, i, rd, rs, ws, xi, a, c, bk, value, steps, asked, W, rows⟩) = ( (decide ((↑n : Int) < 200) = true → ∃ (s : (dE p).St), p = p ∧ rd = s.rd
 ∧ rs = s.rs ∧ ws = s.ws ∧ wRv (1 : Int) 0 2 (List.take xi rows) = wRv (↑s.n : Int) 0 2 (List.take s.xi s.rows) ∧ wat = wat ∧ rows = s.rows ∧ takT (List.take xi rows) = takT (List.take s.xi s.rows) ∧ Z39 (steps = s.steps
 ∧ Q 32 ∧ filtT ws = filtT s.ws ∧ asked = s.asked ∧ Z40 (c = s.c ∧ Z90 ((↑xi : Int) = (↑s.xi : Int) ∧ value = s.value ∧ Z19 (bk = s.bk ∧ Z53 ((↑i : Int) = (↑s.i : Int) ∧ Z16 ((dE p).I s ∧ (∀ (y : (oEF p).St), (oEF p).I s
 y → ∃ (s : US), Z2 (wRv (↑y.n : Int) 0 2 (List.take y.xi y.rows) = wRv (1 : Int) 0 2 (List.take s.xi s.rows) ∧ y.steps = s.steps ∧ Z8 (y.c = s.c ∧ Z9 (y.rs = s.rs ∧ Q 32 ∧ y.ws = s.ws ∧ filtT y.ws = filtT s.ws ∧ y.asked
 = s.asked ∧ wat = wat ∧ Z91 ((↑y.xi : Int) = (↑s.xi : Int) ∧ Q 0 ∧ y.value = s.value ∧ Z19 (y.bk = s.bk ∧ Z20 (y.rows = s.rows ∧ takT (List.take y.xi y.rows) = takT (List.take s.xi s.rows) ∧ Qb true ∧ p = p ∧ (↑y.i :
 Int) = (↑s.i : Int) ∧ Z16 (y.rd = s.rd ∧ Qb false ∧ IntKind.i64.wrap ((↑n : Int) + 1) = (↑s.n : Int) ∧ ((shF p (1 : Int)).I s ∧ s.n + (shF p (1 : Int)).R s ≤ 200) ∧ (10000 : Nat) - s.n < 10000 - n ∧ True)))))))) ∧
 True))))))) ∧ (decide ((↑n : Int) < 200) = false → keysD.pre (Rs.mk (32 : Int) rs, ()) ∧ ws.length * 16 ≤ 140737488355328 ∧ ∃ (s : US), wRv (1 : Int) 0 2 (List.take xi rows) = wV (1 : Int) s.a (0 : Int) (0 : Int) (0 :
 Int) (0 : Int) ∧ steps = s.steps ∧ Stuck "le: a")) := by kernel_rfl
theorem wa_2E_ok (l p : List Op) (cl w : Int) (s : US) (hI : (cut2 false (shE p 1) (obT p)).I s) : Paid (cW l p cl w 25 (cut2 false (shE p 1) (obT p)) s) := by
  obtain ⟨n, i, rd, rs, ws, xi, a, c, bk, value, steps, asked, W, rows⟩ := s
  have hI0 := hI
  obtain ⟨hS, _⟩ := hI
  obtain ⟨⟨⟨⟨hpO, hc, hi, hrd, hrs, hws, hwd, hrr⟩, hnod⟩, ⟨he, hne, hrow, hbk⟩, hx⟩, hn⟩ := hI0
  have he : i = p.length + 1 := he
  have hrow : rows = rowsT (ws.map (·.pl)) := hrow
  have hr8 : rows ∈ L8 := by rw [hrow]; exact rowsT_in _
  have hrl := rows_len rows hr8
  have hx : xi < rows.length := hx
  have hi : i ≤ p.length + 1 := hi
  have hrs : rs.length ≤ i := hrs
  have hws : ws.length ≤ i := hws
  have hp8 := hpO.1
  have hn : n + (55 - 2 * xi) ≤ 200 := hn
  refine ⟨?_⟩
  rw [wa_2E]
  refine ⟨?_, ?_⟩
  · intro h1
    replace h1 := of_decide_eq_true h1
    first
    | (exfalso; omega)
    | (refine ⟨⟨1, i, rd, rs, ws, xi, a, c, bk, value, steps, asked, W, rows⟩, ⟨rfl, rfl, rfl, rfl, rfl, rfl, rfl, rfl, t39 ⟨rfl, rfl, rfl, rfl, t40 ⟨rfl, t90 ⟨rfl, rfl, t19 ⟨rfl, t53 ⟨rfl, t16 ⟨⟨hS, (show 1 ≤ 1 by decide)⟩, ?_, trivial⟩⟩⟩⟩⟩⟩⟩⟩
       intro y hy2_
       obtain ⟨_, hy1, hyn, hyR⟩ := hy2_
       have hyn : y.n = 1 := hyn
       have hyR : 54 - 2 * y.xi < 55 - 2 * xi := hyR
       exact ⟨⟨n + 1, y.i, y.rd, y.rs, y.ws, y.xi, y.a, y.c, y.bk, y.value, y.steps, y.asked, y.W, y.rows⟩, (t2 ⟨(by rw [hyn]; rfl), rfl, t8 ⟨rfl, t9 ⟨rfl, rfl, rfl, rfl, rfl, rfl, t91 ⟨rfl, rfl, rfl, t19 ⟨rfl, t20 ⟨rfl, rfl, rfl, rfl, rfl, t16 ⟨rfl, rfl, (wN (by omega)), ⟨hy1, (show n + 1 + (54 - 2 * y.xi) ≤ 200 by omega)⟩, (show (10000 : Nat) - (n + 1) < (10000 : Nat) - n by omega), trivial⟩⟩⟩⟩⟩⟩⟩)⟩)
  · intro h3
    replace h3 := of_decide_eq_false h3
    first
    | (exfalso; omega)
    | (refine ⟨(show rs.length ≤ 1000 by omega), (show ws.length * (16 : Nat) ≤ (140737488355328 : Nat) by omega), ?_⟩
       exact ⟨⟨n, i, rd, rs, ws, xi, (0 : Int), c, bk, value, steps, asked, W, rows⟩, ⟨rfl, rfl, (by exfalso; omega)⟩⟩)
theorem wa_2F : Go.Sy.Tree.holds (cW l p cl w 25 (cut2 false (shF p 1) (obT p)) ⟨n, i, rd, rs, ws, xi, a, c, bk, value, steps, asked, W, rows⟩) = ( (decide ((↑n : Int) < 200) = true → ∃ (s : (dF p).St), p = p ∧ rd = s.rd
 ∧ rs = s.rs ∧ ws = s.ws ∧ wRv (1 : Int) 0 2 (List.take xi rows) = wRv (↑s.n : Int) 0 2 (List.take s.xi s.rows) ∧ wat = wat ∧ rows = s.rows ∧ takT (List.take xi rows) = takT (List.take s.xi s.rows) ∧ Z39 (steps = s.steps
 ∧ Q 32 ∧ filtT ws = filtT s.ws ∧ asked = s.asked ∧ Z40 (c = s.c ∧ Z92 ((↑xi : Int) = (↑s.xi : Int) ∧ Q 0 ∧ value = s.value ∧ Z19 (bk = s.bk ∧ Z53 ((↑i : Int) = (↑s.i : Int) ∧ Z16 ((dF p).I s ∧ (∀ (y : (oFE p).St), (oFE
 p).I s y → ∃ (s : US), Z2 (wRv (↑y.n : Int) 0 2 (List.take y.xi y.rows) = wRv (1 : Int) 0 2 (List.take s.xi s.rows) ∧ y.steps = s.steps ∧ Z8 (y.c = s.c ∧ Z9 (y.rs = s.rs ∧ Q 32 ∧ y.ws = s.ws ∧ filtT y.ws = filtT s.ws ∧
 y.asked = s.asked ∧ wat = wat ∧ Z82 ((↑y.xi : Int) = (↑s.xi : Int) ∧ y.value = s.value ∧ Z19 (y.bk = s.bk ∧ Z20 (y.rows = s.rows ∧ takT (List.take y.xi y.rows) = takT (List.take s.xi s.rows) ∧ Qb true ∧ p = p ∧ (↑y.i :
 Int) = (↑s.i : Int) ∧ Z16 (y.rd = s.rd ∧ Qb false ∧ IntKind.i64.wrap ((↑n : Int) + 1) = (↑s.n : Int) ∧ ((shE p (1 : Int)).I s ∧ s.n + (shE p (1 : Int)).R s ≤ 200) ∧ (10000 : Nat) - s.n < 10000 - n ∧ True)))))))) ∧ (∀ (y
 : (oFG p).St), (oFG p).I s y → ∃ (s : US), Z2 (wRv (↑y.n : Int) 0 2 y.rows = wRv (1 : Int) 0 2 s.rows ∧ y.steps = s.steps ∧ Z8 (y.c = s.c ∧ Z9 (y.rs = s.rs ∧ Q 32 ∧ y.ws = s.ws ∧ filtT y.ws = filtT s.ws ∧ y.asked =
 s.asked ∧ wat = wat ∧ Z93 (y.value = s.value ∧ Z19 (y.bk = s.bk ∧ Z20 (y.rows = s.rows ∧ takT y.rows = takT s.rows ∧ Qb true ∧ p = p ∧ (↑y.i : Int) = (↑s.i : Int) ∧ Z16 (y.rd = s.rd ∧ Qb false ∧ IntKind.i64.wrap ((↑n :
 Int) + 1) = (↑s.n : Int) ∧ ((shG p (1 : Int)).I s ∧ s.n + (shG p (1 : Int)).R s ≤ 200) ∧ (10000 : Nat) - s.n < 10000 - n ∧ True)))))))) ∧ True))))))) ∧ (decide ((↑n : Int) < 200) = false → keysD.pre (Rs.mk (32 : Int) rs,
 ()) ∧ ws.length * 16 ≤ 140737488355328 ∧ ∃ (s : US), wRv (1 : Int) 0 2 (List.take xi rows) = wV (1 : Int) s.a (0 : Int) (0 : Int) (0 : Int) (0 : Int) ∧ steps = s.steps ∧ Stuck "le: a")) := by kernel_rfl
theorem wa_2F_ok (l p : List Op) (cl w : Int) (s : US) (hI : (cut2 false (shF p 1) (obT p)).I s) : Paid (cW l p cl w 25 (cut2 false (shF p 1) (obT p)) s) := by
  obtain ⟨n, i, rd, rs, ws, xi, a, c, bk, value, steps, asked, W, rows⟩ := s
  have hI0 := hI
  obtain ⟨hS, _⟩ := hI
  obtain ⟨⟨⟨⟨hpO, hc, hi, hrd, hrs, hws, hwd, hrr⟩, hnod⟩, ⟨he, hne, hrow, hbk⟩, hx⟩, hn⟩ := hI0
  have he : i = p.length + 1 := he
  have hrow : rows = rowsT (ws.map (·.pl)) := hrow
  have hr8 : rows ∈ L8 := by rw [hrow]; exact rowsT_in _
  have hrl := rows_len rows hr8
  have hx : xi < rows.length := hx
  have hi : i ≤ p.length + 1 := hi
  have hrs : rs.length ≤ i := hrs
  have hws : ws.length ≤ i := hws
  have hp8 := hpO.1
  have hn : n + (54 - 2 * xi) ≤ 200 := hn
  refine ⟨?_⟩
  rw [wa_2F]
  refine ⟨?_, ?_⟩
  · intro h1
    replace h1 := of_decide_eq_true h1
    first
    | (exfalso; omega)
    | (refine ⟨⟨1, i, rd, rs, ws, xi, a, c, bk, value, steps, asked, W, rows⟩, ⟨rfl, rfl, rfl, rfl, rfl, rfl, rfl, rfl, t39 ⟨rfl, rfl, rfl, rfl, t40 ⟨rfl, t92 ⟨rfl, rfl, rfl, t19 ⟨rfl, t53 ⟨rfl, t16 ⟨⟨hS, (show 1 ≤ 1 by decide)⟩, ?_, ?_, trivial⟩⟩⟩⟩⟩⟩⟩⟩
       · intro y hy2_
         obtain ⟨_, hy1, hyn, hyR⟩ := hy2_
         have hyn : y.n = 1 := hyn
         have hyR : 55 - 2 * y.xi < 54 - 2 * xi := hyR
         exact ⟨⟨n + 1, y.i, y.rd, y.rs, y.ws, y.xi, y.a, y.c, y.bk, y.value, y.steps, y.asked, y.W, y.rows⟩, (t2 ⟨(by rw [hyn]; rfl), rfl, t8 ⟨rfl, t9 ⟨rfl, rfl, rfl, rfl, rfl, rfl, t82 ⟨rfl, rfl, t19 ⟨rfl, t20 ⟨rfl, rfl, rfl, rfl, rfl, t16 ⟨rfl, rfl, (wN (by omega)), ⟨hy1, (show n + 1 + (55 - 2 * y.xi) ≤ 200 by omega)⟩, (show (10000 : Nat) - (n + 1) < (10000 : Nat) - n by omega), trivial⟩⟩⟩⟩⟩⟩⟩)⟩
       · intro y hy3_
         obtain ⟨_, hy1, hyn, hyR⟩ := hy3_
         have hyn : y.n = 1 := hyn
         have hyR : 45 < 54 - 2 * xi := hyR
         exact ⟨⟨n + 1, y.i, y.rd, y.rs, y.ws, y.xi, y.a, y.c, y.bk, y.value, y.steps, y.asked, y.W, y.rows⟩, (t2 ⟨(by rw [hyn]; rfl), rfl, t8 ⟨rfl, t9 ⟨rfl, rfl, rfl, rfl, rfl, rfl, t93 ⟨rfl, t19 ⟨rfl, t20 ⟨rfl, rfl, rfl, rfl, rfl, t16 ⟨rfl, rfl, (wN (by omega)), ⟨hy1, (show n + 1 + (45) ≤ 200 by omega)⟩, (show (10000 : Nat) - (n + 1) < (10000 : Nat) - n by omega), trivial⟩⟩⟩⟩⟩⟩⟩)⟩)
  · intro h4
    replace h4 := of_decide_eq_false h4
    first
    | (exfalso; omega)
    | (refine ⟨(show rs.length ≤ 1000 by omega), (show ws.length * (16 : Nat) ≤ (140737488355328 : Nat) by omega), ?_⟩
       exact ⟨⟨n, i, rd, rs, ws, xi, (0 : Int), c, bk, value, steps, asked, W, rows⟩, ⟨rfl, rfl, (by exfalso; omega)⟩⟩)
theorem wa_2G : Go.Sy.Tree.holds (cW l p cl w 25 (cut2 false (shG p 1) (obR p)) ⟨n, i, rd, rs, ws, xi, a, c, bk, value, steps, asked, W, rows⟩) = ( (decide ((↑n : Int) < 200) = true → ∃ (s : (dG p).St), p = p ∧ rd = s.rd
 ∧ rs = s.rs ∧ ws = s.ws ∧ wRv (1 : Int) 0 2 rows = wRv (↑s.n : Int) 0 2 s.rows ∧ wat = wat ∧ rows = s.rows ∧ takT rows = takT s.rows ∧ Z39 (steps = s.steps ∧ Q 32 ∧ filtT ws = filtT s.ws ∧ asked = s.asked ∧ Z40 (c = s.c
 ∧ Z57 (value = s.value ∧ Z19 (bk = s.bk ∧ Z53 ((↑i : Int) = (↑s.i : Int) ∧ Z16 ((dG p).I s ∧ (∀ (y : (oGH p).St), (oGH p).I s y → ∃ (s : US), Z2 (wRv (↑y.n : Int) 0 2 y.rows = wRv (1 : Int) 0 2 s.rows ∧ y.steps = s.steps
 ∧ Z8 (y.c = s.c ∧ Z9 (y.rs = s.rs ∧ Q 32 ∧ y.ws = s.ws ∧ filtT y.ws = filtT s.ws ∧ y.asked = s.asked ∧ wat = wat ∧ Z93 (y.value = s.value ∧ Z47 (y.rows = s.rows ∧ takT y.rows = takT s.rows ∧ Qb true ∧ p = p ∧ (↑y.i :
 Int) = (↑s.i : Int) ∧ Z16 (y.rd = s.rd ∧ Qb false ∧ IntKind.i64.wrap ((↑n : Int) + 1) = (↑s.n : Int) ∧ ((shH p (1 : Int)).I s ∧ s.n + (shH p (1 : Int)).R s ≤ 200) ∧ (10000 : Nat) - s.n < 10000 - n ∧ True))))))) ∧ (∀ (y :
 (oGJ p).St), (oGJ p).I s y → ∃ (s : US), Z2 (wRv (↑y.n : Int) y.a (2 : Int) y.rows = wRv (1 : Int) s.a (2 : Int) s.rows ∧ y.steps = s.steps ∧ Z8 (y.c = s.c ∧ Z9 (y.rs = s.rs ∧ Q 32 ∧ y.ws = s.ws ∧ filtT y.ws = filtT s.ws
 ∧ y.asked = s.asked ∧ wat = wat ∧ Z83 (y.value = s.value ∧ y.a = s.a ∧ y.rows = s.rows ∧ takT y.rows = takT s.rows ∧ Qb true ∧ p = p ∧ (↑y.i : Int) = (↑s.i : Int) ∧ Z16 (y.rd = s.rd ∧ Qb false ∧ IntKind.i64.wrap ((↑n :
 Int) + 1) = (↑s.n : Int) ∧ ((shJ p (1 : Int)).I s ∧ s.n + (shJ p (1 : Int)).R s ≤ 200) ∧ (10000 : Nat) - s.n < 10000 - n ∧ True)))))) ∧ True))))))) ∧ (decide ((↑n : Int) < 200) = false → keysD.pre (Rs.mk (32 : Int) rs,
 ()) ∧ ws.length * 16 ≤ 140737488355328 ∧ ∃ (s : US), wRv (1 : Int) 0 2 rows = wV (1 : Int) s.a (0 : Int) (0 : Int) (0 : Int) (0 : Int) ∧ steps = s.steps ∧ Stuck "le: a")) := by kernel_rfl
theorem wa_2G_ok (l p : List Op) (cl w : Int) (s : US) (hI : (cut2 false (shG p 1) (obR p)).I s) : Paid (cW l p cl w 25 (cut2 false (shG p 1) (obR p)) s) := by
  obtain ⟨n, i, rd, rs, ws, xi, a, c, bk, value, steps, asked, W, rows⟩ := s
  obtain ⟨hS, hn⟩ := hI
  have hn : n + (45) ≤ 200 := hn
  refine ⟨?_⟩
  rw [wa_2G]
  refine ⟨?_, ?_⟩
  · intro h1
    replace h1 := of_decide_eq_true h1
    first
    | (exfalso; omega)
    | (refine ⟨⟨1, i, rd, rs, ws, xi, a, c, bk, value, steps, asked, W, rows⟩, ⟨rfl, rfl, rfl, rfl, rfl, rfl, rfl, rfl, t39 ⟨rfl, rfl, rfl, rfl, t40 ⟨rfl, t57 ⟨rfl, t19 ⟨rfl, t53 ⟨rfl, t16 ⟨⟨hS, (show 1 ≤ 1 by decide)⟩, ?_, ?_, trivial⟩⟩⟩⟩⟩⟩⟩⟩
       · intro y hy2_
         obtain ⟨_, hy1, hyn, hyR⟩ := hy2_
         have hyn : y.n = 1 := hyn
         have hyR : 44 < 45 := hyR
         exact ⟨⟨n + 1, y.i, y.rd, y.rs, y.ws, y.xi, y.a, y.c, y.bk, y.value, y.steps, y.asked, y.W, y.rows⟩, (t2 ⟨(by rw [hyn]; rfl), rfl, t8 ⟨rfl, t9 ⟨rfl, rfl, rfl, rfl, rfl, rfl, t93 ⟨rfl, t47 ⟨rfl, rfl, rfl, rfl, rfl, t16 ⟨rfl, rfl, (wN (by omega)), ⟨hy1, (show n + 1 + (44) ≤ 200 by omega)⟩, (show (10000 : Nat) - (n + 1) < (10000 : Nat) - n by omega), trivial⟩⟩⟩⟩⟩⟩)⟩
       · intro y hy3_
         obtain ⟨_, hy1, hyn, hyR⟩ := hy3_
         have hyn : y.n = 1 := hyn
         have hyR : 30 < 45 := hyR
         exact ⟨⟨n + 1, y.i, y.rd, y.rs, y.ws, y.xi, y.a, y.c, y.bk, y.value, y.steps, y.asked, y.W, y.rows⟩, (t2 ⟨(by rw [hyn]; rfl), rfl, t8 ⟨rfl, t9 ⟨rfl, rfl, rfl, rfl, rfl, rfl, t83 ⟨rfl, rfl, rfl, rfl, rfl, rfl, rfl, t16 ⟨rfl, rfl, (wN (by omega)), ⟨hy1, (show n + 1 + (30) ≤ 200 by omega)⟩, (show (10000 : Nat) - (n + 1) < (10000 : Nat) - n by omega), trivial⟩⟩⟩⟩⟩)⟩)
  · intro h4
    replace h4 := of_decide_eq_false h4
    first
    | (exfalso; omega)
    | (refine ⟨(show rs.length ≤ 1000 by omega), (show ws.length * (16 : Nat) ≤ (140737488355328 : Nat) by omega), ?_⟩
       exact ⟨⟨n, i, rd, rs, ws, xi, (0 : Int), c, bk, value, steps, asked, W, rows⟩, ⟨(by rw [show (n : Int) = 1 by omega]), rfl, (by exfalso; omega)⟩⟩)
theorem wa_2H : Go.Sy.Tree.holds (cW l p cl w 25 (cut2 false (shH p 1) (obR p)) ⟨n, i, rd, rs, ws, xi, a, c, bk, value, steps, asked, W, rows⟩) = ( (decide ((↑n : Int) < 200) = true → ∃ (s : (dH p).St), p = p ∧ rd = s.rd
 ∧ rs = s.rs ∧ ws = s.ws ∧ wRv (1 : Int) 0 2 rows = wRv (↑s.n : Int) 0 2 s.rows ∧ wat = wat ∧ rows = s.rows ∧ takT rows = takT s.rows ∧ Z39 (steps = s.steps ∧ Q 32 ∧ filtT ws = filtT s.ws ∧ asked = s.asked ∧ Z40 (c = s.c
 ∧ Z57 (value = s.value ∧ Z94 ((↑i : Int) = (↑s.i : Int) ∧ Z16 ((dH p).I s ∧ (∀ (y : (oHI p).St), (oHI p).I s y → ∃ (s : US), Z2 (wRv (↑y.n : Int) 1 2 y.rows = wRv (1 : Int) 1 2 s.rows ∧ y.steps = s.steps ∧ Z8 (y.c = s.c
 ∧ Z9 (y.rs = s.rs ∧ Q 32 ∧ y.ws = s.ws ∧ filtT y.ws = filtT s.ws ∧ y.asked = s.asked ∧ wat = wat ∧ Z95 ((↑y.xi : Int) = (↑s.xi : Int) ∧ y.value = s.value ∧ Z29 (y.bk = s.bk ∧ y.rows = s.rows ∧ takT y.rows = takT s.rows ∧
 Qb true ∧ p = p ∧ (↑y.i : Int) = (↑s.i : Int) ∧ Z16 (y.rd = s.rd ∧ Qb false ∧ IntKind.i64.wrap ((↑n : Int) + 1) = (↑s.n : Int) ∧ ((shI p (1 : Int)).I s ∧ s.n + (shI p (1 : Int)).R s ≤ 200) ∧ (10000 : Nat) - s.n < 10000 -
 n ∧ True))))))) ∧ (∀ (y : (oHJ p).St), (oHJ p).I s y → ∃ (s : US), Z2 (wRv (↑y.n : Int) y.a (2 : Int) y.rows = wRv (1 : Int) s.a (2 : Int) s.rows ∧ y.steps = s.steps ∧ Z8 (y.c = s.c ∧ Z9 (y.rs = s.rs ∧ Q 32 ∧ y.ws = s.ws
 ∧ filtT y.ws = filtT s.ws ∧ y.asked = s.asked ∧ wat = wat ∧ Z83 (y.value = s.value ∧ y.a = s.a ∧ y.rows = s.rows ∧ takT y.rows = takT s.rows ∧ Qb true ∧ p = p ∧ (↑y.i : Int) = (↑s.i : Int) ∧ Z16 (y.rd = s.rd ∧ Qb false ∧
 IntKind.i64.wrap ((↑n : Int) + 1) = (↑s.n : Int) ∧ ((shJ p (1 : Int)).I s ∧ s.n + (shJ p (1 : Int)).R s ≤ 200) ∧ (10000 : Nat) - s.n < 10000 - n ∧ True)))))) ∧ True)))))) ∧ (decide ((↑n : Int) < 200) = false → keysD.pre
 (Rs.mk (32 : Int) rs, ()) ∧ ws.length * 16 ≤ 140737488355328 ∧ ∃ (s : US), wRv (1 : Int) 0 2 rows = wV (1 : Int) s.a (0 : Int) (0 : Int) (0 : Int) (0 : Int) ∧ steps = s.steps ∧ Stuck "le: a")) := by kernel_rfl
theorem wa_2H_ok (l p : List Op) (cl w : Int) (s : US) (hI : (cut2 false (shH p 1) (obR p)).I s) : Paid (cW l p cl w 25 (cut2 false (shH p 1) (obR p)) s) := by
  obtain ⟨n, i, rd, rs, ws, xi, a, c, bk, value, steps, asked, W, rows⟩ := s
  obtain ⟨hS, hn⟩ := hI
  have hn : n + (44) ≤ 200 := hn
  refine ⟨?_⟩
  rw [wa_2H]
  refine ⟨?_, ?_⟩
  · intro h1
    replace h1 := of_decide_eq_true h1
    first
    | (exfalso; omega)
    | (refine ⟨⟨1, i, rd, rs, ws, xi, a, c, bk, value, steps, asked, W, rows⟩, ⟨rfl, rfl, rfl, rfl, rfl, rfl, rfl, rfl, t39 ⟨rfl, rfl, rfl, rfl, t40 ⟨rfl, t57 ⟨rfl, t94 ⟨rfl, t16 ⟨⟨hS, (show 1 ≤ 1 by decide)⟩, ?_, ?_, trivial⟩⟩⟩⟩⟩⟩⟩
       · intro y hy2_
         obtain ⟨_, hy1, hyn, hyR⟩ := hy2_
         have hyn : y.n = 1 := hyn
         have hyR : 43 - y.xi < 44 := hyR
         exact ⟨⟨n + 1, y.i, y.rd, y.rs, y.ws, y.xi, y.a, y.c, y.bk, y.value, y.steps, y.asked, y.W, y.rows⟩, (t2 ⟨(by rw [hyn]; rfl), rfl, t8 ⟨rfl, t9 ⟨rfl, rfl, rfl, rfl, rfl, rfl, t95 ⟨rfl, rfl, t29 ⟨rfl, rfl, rfl, rfl, rfl, rfl, t16 ⟨rfl, rfl, (wN (by omega)), ⟨hy1, (show n + 1 + (43 - y.xi) ≤ 200 by omega)⟩, (show (10000 : Nat) - (n + 1) < (10000 : Nat) - n by omega), trivial⟩⟩⟩⟩⟩⟩)⟩
       · intro y hy3_
         obtain ⟨_, hy1, hyn, hyR⟩ := hy3_
         have hyn : y.n = 1 := hyn
         have hyR : 30 < 44 := hyR
         exact ⟨⟨n + 1, y.i, y.rd, y.rs, y.ws, y.xi, y.a, y.c, y.bk, y.value, y.steps, y.asked, y.W, y.rows⟩, (t2 ⟨(by rw [hyn]; rfl), rfl, t8 ⟨rfl, t9 ⟨rfl, rfl, rfl, rfl, rfl, rfl, t83 ⟨rfl, rfl, rfl, rfl, rfl, rfl, rfl, t16 ⟨rfl, rfl, (wN (by omega)), ⟨hy1, (show n + 1 + (30) ≤ 200 by omega)⟩, (show (10000 : Nat) - (n + 1) < (10000 : Nat) - n by omega), trivial⟩⟩⟩⟩⟩)⟩)
  · intro h4
    replace h4 := of_decide_eq_false h4
    first
    | (exfalso; omega)
    | (refine ⟨(show rs.length ≤ 1000 by omega), (show ws.length * (16 : Nat) ≤ (140737488355328 : Nat) by omega), ?_⟩
       exact ⟨⟨n, i, rd, rs, ws, xi, (0 : Int), c, bk, value, steps, asked, W, rows⟩, ⟨(by rw [show (n : Int) = 1 by omega]), rfl, (by exfalso; omega)⟩⟩)
theorem wa_2I : Go.Sy.Tree.holds (cW l p cl w 25 (cut2 false (shI p 1) (obR p)) ⟨n, i, rd, rs, ws, xi, a, c, bk, value, steps, asked, W, rows⟩) = ( (decide ((↑n : Int) < 200) = true → ∃ (s : (dI p).St), p = p ∧ rd = s.rd
 ∧ rs = s.rs ∧ ws = s.ws ∧ wRv (1 : Int) 1 2 rows = wRv (↑s.n : Int) 1 2 s.rows ∧ wat = wat ∧ rows = s.rows ∧ takT rows = takT s.rows ∧ Z39 (steps = s.steps ∧ Q 32 ∧ filtT ws = filtT s.ws ∧ asked = s.asked ∧ Z40 (c = s.c
 ∧ Z60 ((↑xi : Int) = (↑s.xi : Int) ∧ value = s.value ∧ Z29 (bk = s.bk ∧ Qb true ∧ (↑i : Int) = (↑s.i : Int) ∧ Z16 ((dI p).I s ∧ (∀ (y : (oII p).St), (oII p).I s y → ∃ (s : US), Z2 (wRv (↑y.n : Int) 1 2 y.rows = wRv (1 :
 Int) 1 2 s.rows ∧ y.steps = s.steps ∧ Z8 (y.c = s.c ∧ Z9 (y.rs = s.rs ∧ Q 32 ∧ y.ws = s.ws ∧ filtT y.ws = filtT s.ws ∧ y.asked = s.asked ∧ wat = wat ∧ Z95 ((↑y.xi : Int) = (↑s.xi : Int) ∧ y.value = s.value ∧ Z29 (y.bk =
 s.bk ∧ y.rows = s.rows ∧ takT y.rows = takT s.rows ∧ Qb true ∧ p = p ∧ (↑y.i : Int) = (↑s.i : Int) ∧ Z16 (y.rd = s.rd ∧ Qb false ∧ IntKind.i64.wrap ((↑n : Int) + 1) = (↑s.n : Int) ∧ ((shI p (1 : Int)).I s ∧ s.n + (shI p
 (1 : Int)).R s ≤ 200) ∧ (10000 : Nat) - s.n < 10000 - n ∧ True))))))) ∧ (∀ (y : (oIJ p).St), (oIJ p).I s y → ∃ (s : US), Z2 (wRv (↑y.n : Int) y.a (2 : Int) y.rows = wRv (1 : Int) s.a (2 : Int) s.rows ∧ y.steps = s.steps
 ∧ Z8 (y.c = s.c ∧ Z9 (y.rs = s.rs ∧ Q 32 ∧ y.ws = s.ws ∧ filtT y.ws = filtT s.ws ∧ y.asked = s.asked ∧ wat = wat ∧ Z83 (y.value = s.value ∧ y.a = s.a ∧ y.rows = s.rows ∧ takT y.rows = takT s.rows ∧ Qb true ∧ p = p ∧
 (↑y.i : Int) = (↑s.i : Int) ∧ Z16 (y.rd = s.rd ∧ Qb false ∧ IntKind.i64.wrap ((↑n : Int) + 1) = (↑s.n : Int) ∧ ((shJ p (1 : Int)).I s ∧ s.n + (shJ p (1 : Int)).R s ≤ 200) ∧ (10000 : Nat) - s.n < 10000 - n ∧ True)))))) ∧
 True)))))) ∧ (decide ((↑n : Int) < 200) = false → keysD.pre (Rs.mk (32 : Int) rs, ()) ∧ ws.length * 16 ≤ 140737488355328 ∧ ∃ (s : US), wRv (1 : Int) 1 2 rows = wV (1 : Int) s.a (0 : Int) (0 : Int) (0 : Int) (0 : Int) ∧
 steps = s.steps ∧ Stuck "le: a")) := by kernel_rfl
theorem wa_2I_ok (l p : List Op) (cl w : Int) (s : US) (hI : (cut2 false (shI p 1) (obR p)).I s) : Paid (cW l p cl w 25 (cut2 false (shI p 1) (obR p)) s) := by
  obtain ⟨n, i, rd, rs, ws, xi, a, c, bk, value, steps, asked, W, rows⟩ := s
  have hI0 := hI
  obtain ⟨hS, _⟩ := hI
  obtain ⟨⟨⟨⟨hpO, hc, hi, hrd, hrs, hws, hwd, hrr⟩, hnod⟩, ⟨he, hne, hrow, hbk⟩, hx⟩, hn⟩ := hI0
  have he : i = p.length + 1 := he
  have hrow : rows = rowsT (ws.map (·.pl)) := hrow
  have hr8 : rows ∈ L8 := by rw [hrow]; exact rowsT_in _
  have hrl := rows_len rows hr8
  have hx : xi < rs.length := hx
  have hi : i ≤ p.length + 1 := hi
  have hrs : rs.length ≤ i := hrs
  have hws : ws.length ≤ i := hws
  have hp8 := hpO.1
  have hn : n + (43 - xi) ≤ 200 := hn
  refine ⟨?_⟩
  rw [wa_2I]
  refine ⟨?_, ?_⟩
  · intro h1
    replace h1 := of_decide_eq_true h1
    first
    | (exfalso; omega)
    | (refine ⟨⟨1, i, rd, rs, ws, xi, a, c, bk, value, steps, asked, W, rows⟩, ⟨rfl, rfl, rfl, rfl, rfl, rfl, rfl, rfl, t39 ⟨rfl, rfl, rfl, rfl, t40 ⟨rfl, t60 ⟨rfl, rfl, t29 ⟨rfl, rfl, rfl, t16 ⟨⟨hS, (show 1 ≤ 1 by decide)⟩, ?_, ?_, trivial⟩⟩⟩⟩⟩⟩⟩
       · intro y hy2_
         obtain ⟨_, hy1, hyn, hyR⟩ := hy2_
         have hyn : y.n = 1 := hyn
         have hyR : 43 - y.xi < 43 - xi := hyR
         exact ⟨⟨n + 1, y.i, y.rd, y.rs, y.ws, y.xi, y.a, y.c, y.bk, y.value, y.steps, y.asked, y.W, y.rows⟩, (t2 ⟨(by rw [hyn]; rfl), rfl, t8 ⟨rfl, t9 ⟨rfl, rfl, rfl, rfl, rfl, rfl, t95 ⟨rfl, rfl, t29 ⟨rfl, rfl, rfl, rfl, rfl, rfl, t16 ⟨rfl, rfl, (wN (by omega)), ⟨hy1, (show n + 1 + (43 - y.xi) ≤ 200 by omega)⟩, (show (10000 : Nat) - (n + 1) < (10000 : Nat) - n by omega), trivial⟩⟩⟩⟩⟩⟩)⟩
       · intro y hy3_
         obtain ⟨_, hy1, hyn, hyR⟩ := hy3_
         have hyn : y.n = 1 := hyn
         have hyR : 30 < 43 - xi := hyR
         exact ⟨⟨n + 1, y.i, y.rd, y.rs, y.ws, y.xi, y.a, y.c, y.bk, y.value, y.steps, y.asked, y.W, y.rows⟩, (t2 ⟨(by rw [hyn]; rfl), rfl, t8 ⟨rfl, t9 ⟨rfl, rfl, rfl, rfl, rfl, rfl, t83 ⟨rfl, rfl, rfl, rfl, rfl, rfl, rfl, t16 ⟨rfl, rfl, (wN (by omega)), ⟨hy1, (show n + 1 + (30) ≤ 200 by omega)⟩, (show (10000 : Nat) - (n + 1) < (10000 : Nat) - n by omega), trivial⟩⟩⟩⟩⟩)⟩)
  · intro h4
    replace h4 := of_decide_eq_false h4
    first
    | (exfalso; omega)
    | (refine ⟨(show rs.length ≤ 1000 by omega), (show ws.length * (16 : Nat) ≤ (140737488355328 : Nat) by omega), ?_⟩
       exact ⟨⟨n, i, rd, rs, ws, xi, (1 : Int), c, bk, value, steps, asked, W, rows⟩, ⟨(by rw [show (n : Int) = 1 by omega]), rfl, (by exfalso; omega)⟩⟩)
theorem wa_2J : Go.Sy.Tree.holds (cW l p cl w 25 (cut2 false (shJ p 1) (obR p)) ⟨n, i, rd, rs, ws, xi, a, c, bk, value, steps, asked, W, rows⟩) = ( (decide ((↑n : Int) < 200) = true → ∃ (s : (dJ p).St), p = p ∧ rd = s.rd
 ∧ rs = s.rs ∧ ws = s.ws ∧ wRv (1 : Int) a (2 : Int) rows = wRv (↑s.n : Int) s.a (2 : Int) s.rows ∧ wat = wat ∧ rows = s.rows ∧ takT rows = takT s.rows ∧ Z39 (steps = s.steps ∧ Q 32 ∧ filtT ws = filtT s.ws ∧ asked =
 s.asked ∧ Z40 (c = s.c ∧ Z96 (value = s.value ∧ a = s.a ∧ Qb true ∧ (↑i : Int) = (↑s.i : Int) ∧ Z16 ((dJ p).I s ∧ (∀ (y : (oJK p).St), (oJK p).I s y → ∃ (s : US), Z2 (y.W = s.W ∧ y.steps = s.steps ∧ Z7 (y.rs = s.rs ∧ Q
 32 ∧ y.ws = s.ws ∧ filtT y.ws = filtT s.ws ∧ y.asked = s.asked ∧ Z97 ((↑y.xi : Int) = (↑s.xi : Int) ∧ y.value = s.value ∧ Q 1 ∧ y.rows = s.rows ∧ p = p ∧ (↑y.i : Int) = (↑s.i : Int) ∧ Z16 (y.rd = s.rd ∧ AVal.bool false =
 AVal.bool true ∧ IntKind.i64.wrap ((↑n : Int) + 1) = (↑s.n : Int) ∧ ((shK p).I s ∧ s.n + (shK p).R s ≤ 200) ∧ (10000 : Nat) - s.n < 10000 - n ∧ True))))) ∧ (∀ (y : (oJM p).St), (oJM p).I s y → ∃ (s : US), Z2 (y.W = s.W ∧
 y.steps = s.steps ∧ Z7 (y.rs = s.rs ∧ Q 32 ∧ y.ws = s.ws ∧ filtT y.ws = filtT s.ws ∧ y.asked = s.asked ∧ Z98 (y.value = s.value ∧ y.a = s.a ∧ p = p ∧ (↑y.i : Int) = (↑s.i : Int) ∧ Z16 (y.rd = s.rd ∧ AVal.bool false =
 AVal.bool true ∧ IntKind.i64.wrap ((↑n : Int) + 1) = (↑s.n : Int) ∧ ((shM p).I s ∧ s.n + (shM p).R s ≤ 200) ∧ (10000 : Nat) - s.n < 10000 - n ∧ True))))) ∧ (∀ (y : (oJP p).St), (oJP p).I s y → ∃ (s : US), Z2 (wRv (1 :
 Int) y.a (2 : Int) (List.drop y.xi y.rows) = wRv (1 : Int) s.a (2 : Int) (List.drop s.xi s.rows) ∧ y.steps = s.steps ∧ Z7 (y.rs = s.rs ∧ Q 32 ∧ y.ws = s.ws ∧ filtT y.ws = filtT s.ws ∧ y.asked = s.asked ∧ Z104 ((↑y.xi :
 Int) = (↑s.xi : Int) ∧ Z73 (takT y.rows = takT s.rows ∧ Qb true ∧ p = p ∧ Z16 (y.rd = s.rd ∧ Qb false ∧ IntKind.i64.wrap ((↑n : Int) + 1) = (↑s.n : Int) ∧ ((shP p).I s ∧ s.n + (shP p).R s ≤ 200) ∧ (10000 : Nat) - s.n <
 10000 - n ∧ True)))))) ∧ True))))) ∧ (decide ((↑n : Int) < 200) = false → keysD.pre (Rs.mk (32 : Int) rs, ()) ∧ ws.length * 16 ≤ 140737488355328 ∧ ∃ (s : US), wRv (1 : Int) a (2 : Int) rows = wV (1 : Int) s.a (0 : Int)
 (0 : Int) (0 : Int) (0 : Int) ∧ steps = s.steps ∧ Stuck "le: a")) := by kernel_rfl
theorem wa_2J_ok (l p : List Op) (cl w : Int) (s : US) (hI : (cut2 false (shJ p 1) (obR p)).I s) : Paid (cW l p cl w 25 (cut2 false (shJ p 1) (obR p)) s) := by
  obtain ⟨n, i, rd, rs, ws, xi, a, c, bk, value, steps, asked, W, rows⟩ := s
  obtain ⟨hS, hn⟩ := hI
  have hn : n + (30) ≤ 200 := hn
  refine ⟨?_⟩
  rw [wa_2J]
  refine ⟨?_, ?_⟩
  · intro h1
    replace h1 := of_decide_eq_true h1
    first
    | (exfalso; omega)
    | (refine ⟨⟨1, i, rd, rs, ws, xi, a, c, bk, value, steps, asked, W, rows⟩, ⟨rfl, rfl, rfl, rfl, rfl, rfl, rfl, rfl, t39 ⟨rfl, rfl, rfl, rfl, t40 ⟨rfl, t96 ⟨rfl, rfl, rfl, rfl, t16 ⟨⟨hS, (show 1 ≤ 1 by decide)⟩, ?_, ?_, ?_, trivial⟩⟩⟩⟩⟩⟩
       · intro y hy2_
         exact absurd (show (1 : Nat) = 0 from hy2_.1) (by decide)
       · intro y hy3_
         exact absurd (show (1 : Nat) = 0 from hy3_.1) (by decide)
       · intro y hy4_
         obtain ⟨_, hy1, hyn, hyR⟩ := hy4_
         have hyn : y.n = 1 := hyn
         have hyR : 20 - y.xi < 30 := hyR
         exact ⟨⟨n + 1, y.i, y.rd, y.rs, y.ws, y.xi, y.a, y.c, y.bk, y.value, y.steps, y.asked, y.W, y.rows⟩, (t2 ⟨rfl, rfl, t7 ⟨rfl, rfl, rfl, rfl, rfl, t104 ⟨rfl, t73 ⟨rfl, rfl, rfl, t16 ⟨rfl, rfl, (wN (by omega)), ⟨hy1, (show n + 1 + (20 - y.xi) ≤ 200 by omega)⟩, (show (10000 : Nat) - (n + 1) < (10000 : Nat) - n by omega), trivial⟩⟩⟩⟩⟩)⟩)
  · intro h5
    replace h5 := of_decide_eq_false h5
    first
    | (exfalso; omega)
    | (refine ⟨(show rs.length ≤ 1000 by omega), (show ws.length * (16 : Nat) ≤ (140737488355328 : Nat) by omega), ?_⟩
       exact ⟨⟨n, i, rd, rs, ws, xi, a, c, bk, value, steps, asked, W, rows⟩, ⟨(by rw [show (n : Int) = 1 by omega]), rfl, (by exfalso; omega)⟩⟩)
theorem wa_2K : Go.Sy.Tree.holds (cW l p cl w 25 (cut2 true (shK p) (ob2 p)) ⟨n, i, rd, rs, ws, xi, a, c, bk, value, steps, asked, W, rows⟩) = ( (decide ((↑n : Int) < 200) = true → ∃ (s : (dK p).St), p = p ∧ rd = s.rd ∧
 rs = s.rs ∧ ws = s.ws ∧ W = s.W ∧ rows = s.rows ∧ Z39 (steps = s.steps ∧ Q 32 ∧ filtT ws = filtT s.ws ∧ asked = s.asked ∧ Z65 ((↑xi : Int) = (↑s.xi : Int) ∧ value = s.value ∧ Q 1 ∧ (↑i : Int) = (↑s.i : Int) ∧ Z16 ((dK
 p).I s ∧ (∀ (y : (oKK p).St), (oKK p).I s y → ∃ (s : US), Z2 (y.W = s.W ∧ y.steps = s.steps ∧ Z7 (y.rs = s.rs ∧ Q 32 ∧ y.ws = s.ws ∧ filtT y.ws = filtT s.ws ∧ y.asked = s.asked ∧ Z97 ((↑y.xi : Int) = (↑s.xi : Int) ∧
 y.value = s.value ∧ Q 1 ∧ y.rows = s.rows ∧ p = p ∧ (↑y.i : Int) = (↑s.i : Int) ∧ Z16 (y.rd = s.rd ∧ Qb true ∧ IntKind.i64.wrap ((↑n : Int) + 1) = (↑s.n : Int) ∧ ((shK p).I s ∧ s.n + (shK p).R s ≤ 200) ∧ (10000 : Nat) -
 s.n < 10000 - n ∧ True))))) ∧ (∀ (y : (oKL p).St), (oKL p).I s y → ∃ (s : US), Z2 (y.W = s.W ∧ y.steps = s.steps ∧ Z7 (y.rs = s.rs ∧ Q 32 ∧ y.ws = s.ws ∧ filtT y.ws = filtT s.ws ∧ y.asked = s.asked ∧ Z99 ((↑y.xi : Int) =
 (↑s.xi : Int) ∧ y.value = s.value ∧ Q 1 ∧ y.rows = s.rows ∧ p = p ∧ (↑y.i : Int) = (↑s.i : Int) ∧ Z16 (y.rd = s.rd ∧ Qb true ∧ IntKind.i64.wrap ((↑n : Int) + 1) = (↑s.n : Int) ∧ ((shL p).I s ∧ s.n + (shL p).R s ≤ 200) ∧
 (10000 : Nat) - s.n < 10000 - n ∧ True))))) ∧ (∀ (y : (oKM p).St), (oKM p).I s y → ∃ (s : US), Z2 (y.W = s.W ∧ y.steps = s.steps ∧ Z7 (y.rs = s.rs ∧ Q 32 ∧ y.ws = s.ws ∧ filtT y.ws = filtT s.ws ∧ y.asked = s.asked ∧ Z98
 (y.value = s.value ∧ y.a = s.a ∧ p = p ∧ (↑y.i : Int) = (↑s.i : Int) ∧ Z16 (y.rd = s.rd ∧ Qb true ∧ IntKind.i64.wrap ((↑n : Int) + 1) = (↑s.n : Int) ∧ ((shM p).I s ∧ s.n + (shM p).R s ≤ 200) ∧ (10000 : Nat) - s.n < 10000
 - n ∧ True))))) ∧ True)))) ∧ (decide ((↑n : Int) < 200) = false → keysD.pre (Rs.mk (32 : Int) rs, ()) ∧ ws.length * 16 ≤ 140737488355328 ∧ ∃ (s : US), W = s.W ∧ steps = s.steps ∧ AVal.int IntKind.i64 0 = AVal.int
 IntKind.i64 1 ∧ Qb true ∧ ws = s.ws ∧ (0 : Int) = (↑s.n : Int) ∧ (s.W.length = 34 ∧ s.ws.length ≤ 9 ∧ datL s.ws ∧ DoneL (100 : Nat) s.ws s.W ∧ s.n ≤ s.ws.length) ∧ (100 : Nat) - s.n < 10000 - n ∧ True)) := by kernel_rfl
theorem wa_2K_ok (l p : List Op) (cl w : Int) (s : US) (hI : (cut2 true (shK p) (ob2 p)).I s) : Paid (cW l p cl w 25 (cut2 true (shK p) (ob2 p)) s) := by
  obtain ⟨n, i, rd, rs, ws, xi, a, c, bk, value, steps, asked, W, rows⟩ := s
  have hI0 := hI
  obtain ⟨hS, _⟩ := hI
  obtain ⟨⟨⟨⟨hpO, hc, hi, hrd, hrs, hws, hwd, hrr⟩, hnod⟩, ⟨he, hW⟩, hx⟩, hn⟩ := hI0
  have he : i = p.length + 1 := he
  obtain ⟨hx, hrin, hdone⟩ := hx
  have hrl : rows.length ≤ 3 := hrin.1
  have hx : xi < ws.length := hx
  have hi : i ≤ p.length + 1 := hi
  have hrs : rs.length ≤ i := hrs
  have hws : ws.length ≤ i := hws
  have hp8 := hpO.1
  have hn : n + (29 - xi) ≤ 200 := hn
  refine ⟨?_⟩
  rw [wa_2K]
  refine ⟨?_, ?_⟩
  · intro h1
    replace h1 := of_decide_eq_true h1
    first
    | (exfalso; omega)
    | (refine ⟨⟨1, i, rd, rs, ws, xi, a, c, bk, value, steps, asked, W, rows⟩, ⟨rfl, rfl, rfl, rfl, rfl, rfl, t39 ⟨rfl, rfl, rfl, rfl, t65 ⟨rfl, rfl, rfl, rfl, t16 ⟨⟨hS, (show 1 ≤ 1 by decide)⟩, ?_, ?_, ?_, trivial⟩⟩⟩⟩⟩
       · intro y hy2_
         obtain ⟨_, hy1, hyn, hyR⟩ := hy2_
         have hyn : y.n = 1 := hyn
         have hyR : 29 - y.xi < 29 - xi := hyR
         exact ⟨⟨n + 1, y.i, y.rd, y.rs, y.ws, y.xi, y.a, y.c, y.bk, y.value, y.steps, y.asked, y.W, y.rows⟩, (t2 ⟨rfl, rfl, t7 ⟨rfl, rfl, rfl, rfl, rfl, t97 ⟨rfl, rfl, rfl, rfl, rfl, rfl, t16 ⟨rfl, rfl, (wN (by omega)), ⟨hy1, (show n + 1 + (29 - y.xi) ≤ 200 by omega)⟩, (show (10000 : Nat) - (n + 1) < (10000 : Nat) - n by omega), trivial⟩⟩⟩⟩)⟩
       · intro y hy3_
         obtain ⟨_, hy1, hyn, hyR⟩ := hy3_
         have hyn : y.n = 1 := hyn
         have hyR : 18 - y.xi < 29 - xi := hyR
         exact ⟨⟨n + 1, y.i, y.rd, y.rs, y.ws, y.xi, y.a, y.c, y.bk, y.value, y.steps, y.asked, y.W, y.rows⟩, (t2 ⟨rfl, rfl, t7 ⟨rfl, rfl, rfl, rfl, rfl, t99 ⟨rfl, rfl, rfl, rfl, rfl, rfl, t16 ⟨rfl, rfl, (wN (by omega)), ⟨hy1, (show n + 1 + (18 - y.xi) ≤ 200 by omega)⟩, (show (10000 : Nat) - (n + 1) < (10000 : Nat) - n by omega), trivial⟩⟩⟩⟩)⟩
       · intro y hy4_
         obtain ⟨_, hy1, hyn, hyR⟩ := hy4_
         have hyn : y.n = 1 := hyn
         have hyR : 10 < 29 - xi := hyR
         exact ⟨⟨n + 1, y.i, y.rd, y.rs, y.ws, y.xi, y.a, y.c, y.bk, y.value, y.steps, y.asked, y.W, y.rows⟩, (t2 ⟨rfl, rfl, t7 ⟨rfl, rfl, rfl, rfl, rfl, t98 ⟨rfl, rfl, rfl, rfl, t16 ⟨rfl, rfl, (wN (by omega)), ⟨hy1, (show n + 1 + (10) ≤ 200 by omega)⟩, (show (10000 : Nat) - (n + 1) < (10000 : Nat) - n by omega), trivial⟩⟩⟩⟩)⟩)
  · intro h5
    replace h5 := of_decide_eq_false h5
    first
    | (exfalso; omega)
    | (refine ⟨(show rs.length ≤ 1000 by omega), (show ws.length * (16 : Nat) ≤ (140737488355328 : Nat) by omega), ?_⟩
       exact ⟨⟨0, i, rd, rs, ws, xi, a, c, bk, value, steps, asked, W, rows⟩, ⟨rfl, rfl, (by exfalso; omega), rfl, rfl, rfl, ⟨hW, (show (ws).length ≤ (9 : Nat) by omega), hwd, hdone, (show (0) ≤ (ws).length by omega)⟩, (show (100 : Nat) - (0) < (10000 : Nat) - n by omega), trivial⟩⟩)
theorem wa_2L : Go.Sy.Tree.holds (cW l p cl w 25 (cut2 true (shL p) (ob2 p)) ⟨n, i, rd, rs, ws, xi, a, c, bk, value, steps, asked, W, rows⟩) = ( (decide ((↑n : Int) < 200) = true → ∃ (s : (dL p).St), p = p ∧ rd = s.rd ∧
 rs = s.rs ∧ ws = s.ws ∧ W = s.W ∧ rows = s.rows ∧ Z39 (steps = s.steps ∧ Q 32 ∧ filtT ws = filtT s.ws ∧ asked = s.asked ∧ Z68 ((↑xi : Int) = (↑s.xi : Int) ∧ value = s.value ∧ Q 1 ∧ (↑i : Int) = (↑s.i : Int) ∧ Z16 ((dL
 p).I s ∧ (∀ (y : (oLL p).St), (oLL p).I s y → ∃ (s : US), Z2 (y.W = s.W ∧ y.steps = s.steps ∧ Z7 (y.rs = s.rs ∧ Q 32 ∧ y.ws = s.ws ∧ filtT y.ws = filtT s.ws ∧ y.asked = s.asked ∧ Z99 ((↑y.xi : Int) = (↑s.xi : Int) ∧
 y.value = s.value ∧ Q 1 ∧ y.rows = s.rows ∧ p = p ∧ (↑y.i : Int) = (↑s.i : Int) ∧ Z16 (y.rd = s.rd ∧ Qb true ∧ IntKind.i64.wrap ((↑n : Int) + 1) = (↑s.n : Int) ∧ ((shL p).I s ∧ s.n + (shL p).R s ≤ 200) ∧ (10000 : Nat) -
 s.n < 10000 - n ∧ True))))) ∧ (∀ (y : (oLM p).St), (oLM p).I s y → ∃ (s : US), Z2 (y.W = s.W ∧ y.steps = s.steps ∧ Z7 (y.rs = s.rs ∧ Q 32 ∧ y.ws = s.ws ∧ filtT y.ws = filtT s.ws ∧ y.asked = s.asked ∧ Z98 (y.value =
 s.value ∧ y.a = s.a ∧ p = p ∧ (↑y.i : Int) = (↑s.i : Int) ∧ Z16 (y.rd = s.rd ∧ Qb true ∧ IntKind.i64.wrap ((↑n : Int) + 1) = (↑s.n : Int) ∧ ((shM p).I s ∧ s.n + (shM p).R s ≤ 200) ∧ (10000 : Nat) - s.n < 10000 - n ∧
 True))))) ∧ True)))) ∧ (decide ((↑n : Int) < 200) = false → keysD.pre (Rs.mk (32 : Int) rs, ()) ∧ ws.length * 16 ≤ 140737488355328 ∧ ∃ (s : US), W = s.W ∧ steps = s.steps ∧ AVal.int IntKind.i64 0 = AVal.int IntKind.i64 1
 ∧ Qb true ∧ ws = s.ws ∧ (0 : Int) = (↑s.n : Int) ∧ (s.W.length = 34 ∧ s.ws.length ≤ 9 ∧ datL s.ws ∧ DoneL (100 : Nat) s.ws s.W ∧ s.n ≤ s.ws.length) ∧ (100 : Nat) - s.n < 10000 - n ∧ True)) := by kernel_rfl
theorem wa_2L_ok (l p : List Op) (cl w : Int) (s : US) (hI : (cut2 true (shL p) (ob2 p)).I s) : Paid (cW l p cl w 25 (cut2 true (shL p) (ob2 p)) s) := by
  obtain ⟨n, i, rd, rs, ws, xi, a, c, bk, value, steps, asked, W, rows⟩ := s
  have hI0 := hI
  obtain ⟨hS, _⟩ := hI
  obtain ⟨⟨⟨⟨hpO, hc, hi, hrd, hrs, hws, hwd, hrr⟩, hnod⟩, ⟨he, hW⟩, hx⟩, hn⟩ := hI0
  have he : i = p.length + 1 := he
  obtain ⟨hx, hrin, hdone⟩ := hx
  have hrl : rows.length ≤ 3 := hrin.1
  have hx : xi < rows.length := hx
  have hi : i ≤ p.length + 1 := hi
  have hrs : rs.length ≤ i := hrs
  have hws : ws.length ≤ i := hws
  have hp8 := hpO.1
  have hn : n + (18 - xi) ≤ 200 := hn
  refine ⟨?_⟩
  rw [wa_2L]
  refine ⟨?_, ?_⟩
  · intro h1
    replace h1 := of_decide_eq_true h1
    first
    | (exfalso; omega)
    | (refine ⟨⟨1, i, rd, rs, ws, xi, a, c, bk, value, steps, asked, W, rows⟩, ⟨rfl, rfl, rfl, rfl, rfl, rfl, t39 ⟨rfl, rfl, rfl, rfl, t68 ⟨rfl, rfl, rfl, rfl, t16 ⟨⟨hS, (show 1 ≤ 1 by decide)⟩, ?_, ?_, trivial⟩⟩⟩⟩⟩
       · intro y hy2_
         obtain ⟨_, hy1, hyn, hyR⟩ := hy2_
         have hyn : y.n = 1 := hyn
         have hyR : 18 - y.xi < 18 - xi := hyR
         exact ⟨⟨n + 1, y.i, y.rd, y.rs, y.ws, y.xi, y.a, y.c, y.bk, y.value, y.steps, y.asked, y.W, y.rows⟩, (t2 ⟨rfl, rfl, t7 ⟨rfl, rfl, rfl, rfl, rfl, t99 ⟨rfl, rfl, rfl, rfl, rfl, rfl, t16 ⟨rfl, rfl, (wN (by omega)), ⟨hy1, (show n + 1 + (18 - y.xi) ≤ 200 by omega)⟩, (show (10000 : Nat) - (n + 1) < (10000 : Nat) - n by omega), trivial⟩⟩⟩⟩)⟩
       · intro y hy3_
         obtain ⟨_, hy1, hyn, hyR⟩ := hy3_
         have hyn : y.n = 1 := hyn
         have hyR : 10 < 18 - xi := hyR
         exact ⟨⟨n + 1, y.i, y.rd, y.rs, y.ws, y.xi, y.a, y.c, y.bk, y.value, y.steps, y.asked, y.W, y.rows⟩, (t2 ⟨rfl, rfl, t7 ⟨rfl, rfl, rfl, rfl, rfl, t98 ⟨rfl, rfl, rfl, rfl, t16 ⟨rfl, rfl, (wN (by omega)), ⟨hy1, (show n + 1 + (10) ≤ 200 by omega)⟩, (show (10000 : Nat) - (n + 1) < (10000 : Nat) - n by omega), trivial⟩⟩⟩⟩)⟩)
  · intro h4
    replace h4 := of_decide_eq_false h4
    first
    | (exfalso; omega)
    | (refine ⟨(show rs.length ≤ 1000 by omega), (show ws.length * (16 : Nat) ≤ (140737488355328 : Nat) by omega), ?_⟩
       exact ⟨⟨0, i, rd, rs, ws, xi, a, c, bk, value, steps, asked, W, rows⟩, ⟨rfl, rfl, (by exfalso; omega), rfl, rfl, rfl, ⟨hW, (show (ws).length ≤ (9 : Nat) by omega), hwd, hdone, (show (0) ≤ (ws).length by omega)⟩, (show (100 : Nat) - (0) < (10000 : Nat) - n by omega), trivial⟩⟩)
theorem wa_2M : Go.Sy.Tree.holds (cW l p cl w 25 (cut2 true (shM p) (ob3 p)) ⟨n, i, rd, rs, ws, xi, a, c, bk, value, steps, asked, W, rows⟩) = ( (decide ((↑n : Int) < 200) = true → ∃ (s : (dM p).St), p = p ∧ rd = s.rd ∧
 rs = s.rs ∧ ws = s.ws ∧ W = s.W ∧ Z39 (steps = s.steps ∧ Q 32 ∧ filtT ws = filtT s.ws ∧ asked = s.asked ∧ Z100 (value = s.value ∧ a = s.a ∧ (↑i : Int) = (↑s.i : Int) ∧ Z16 ((dM p).I s ∧ (∀ (y : (oMN p).St), (oMN p).I s y
 → ∃ (s : US), Z2 (y.W = s.W ∧ y.steps = s.steps ∧ Z7 (y.rs = s.rs ∧ Q 32 ∧ y.ws = s.ws ∧ filtT y.ws = filtT s.ws ∧ y.asked = s.asked ∧ Z101 (y.value = s.value ∧ p = p ∧ (↑y.i : Int) = (↑s.i : Int) ∧ Z102 (y.rd = s.rd ∧
 Qb true ∧ IntKind.i64.wrap ((↑n : Int) + 1) = (↑s.n : Int) ∧ ((shN p).I s ∧ s.n + (shN p).R s ≤ 200) ∧ (10000 : Nat) - s.n < 10000 - n ∧ True))))) ∧ True)))) ∧ (decide ((↑n : Int) < 200) = false → keysD.pre (Rs.mk (32 :
 Int) rs, ()) ∧ ws.length * 16 ≤ 140737488355328 ∧ ∃ (s : US), W = s.W ∧ steps = s.steps ∧ AVal.int IntKind.i64 0 = AVal.int IntKind.i64 1 ∧ Qb true ∧ ws = s.ws ∧ (0 : Int) = (↑s.n : Int) ∧ (s.W.length = 34 ∧ s.ws.length
 ≤ 9 ∧ datL s.ws ∧ DoneL (100 : Nat) s.ws s.W ∧ s.n ≤ s.ws.length) ∧ (100 : Nat) - s.n < 10000 - n ∧ True)) := by kernel_rfl
theorem wa_2M_ok (l p : List Op) (cl w : Int) (s : US) (hI : (cut2 true (shM p) (ob3 p)).I s) : Paid (cW l p cl w 25 (cut2 true (shM p) (ob3 p)) s) := by
  obtain ⟨n, i, rd, rs, ws, xi, a, c, bk, value, steps, asked, W, rows⟩ := s
  obtain ⟨hS, hn⟩ := hI
  have hn : n + (10) ≤ 200 := hn
  refine ⟨?_⟩
  rw [wa_2M]
  refine ⟨?_, ?_⟩
  · intro h1
    replace h1 := of_decide_eq_true h1
    first
    | (exfalso; omega)
    | (refine ⟨⟨1, i, rd, rs, ws, xi, a, c, bk, value, steps, asked, W, rows⟩, ⟨rfl, rfl, rfl, rfl, rfl, t39 ⟨rfl, rfl, rfl, rfl, t100 ⟨rfl, rfl, rfl, t16 ⟨⟨hS, (show 1 ≤ 1 by decide)⟩, ?_, trivial⟩⟩⟩⟩⟩
       intro y hy2_
       obtain ⟨_, hy1, hyn, hyR⟩ := hy2_
       have hyn : y.n = 1 := hyn
       have hyR : 0 < 10 := hyR
       exact ⟨⟨n + 1, y.i, y.rd, y.rs, y.ws, y.xi, y.a, y.c, y.bk, y.value, y.steps, y.asked, y.W, y.rows⟩, (t2 ⟨rfl, rfl, t7 ⟨rfl, rfl, rfl, rfl, rfl, t101 ⟨rfl, rfl, rfl, t102 ⟨rfl, rfl, (wN (by omega)), ⟨hy1, (show n + 1 + (0) ≤ 200 by omega)⟩, (show (10000 : Nat) - (n + 1) < (10000 : Nat) - n by omega), trivial⟩⟩⟩⟩)⟩)
  · intro h3
    replace h3 := of_decide_eq_false h3
    first
    | (exfalso; omega)
    | (refine ⟨(show rs.length ≤ 1000 by omega), (show ws.length * (16 : Nat) ≤ (140737488355328 : Nat) by omega), ?_⟩
       exact ⟨⟨0, i, rd, rs, ws, xi, a, c, bk, value, steps, asked, W, rows⟩, ⟨rfl, rfl, (by exfalso; omega), rfl, rfl, rfl, ⟨hW, (show (ws).length ≤ (9 : Nat) by omega), hwd, hdone, (show (0) ≤ (ws).length by omega)⟩, (show (100 : Nat) - (0) < (10000 : Nat) - n by omega), trivial⟩⟩)
theorem wa_2N : Go.Sy.Tree.holds (cW l p cl w 25 (cut2 true (shN p) (ob3 p)) ⟨n, i, rd, rs, ws, xi, a, c, bk, value, steps, asked, W, rows⟩) = ( (decide ((↑n : Int) < 200) = true → keysD.pre (Rs.mk (32 : Int) rs, ()) ∧
 ws.length * 16 ≤ 140737488355328 ∧ ∃ (s : US), W = s.W ∧ steps = s.steps ∧ Z105 (ws = s.ws ∧ (0 : Int) = (↑s.n : Int) ∧ (s.W.length = 34 ∧ s.ws.length ≤ 9 ∧ datL s.ws ∧ DoneL (100 : Nat) s.ws s.W ∧ s.n ≤ s.ws.length) ∧
 (100 : Nat) - s.n < 10000 - n ∧ True)) ∧ (decide ((↑n : Int) < 200) = false → keysD.pre (Rs.mk (32 : Int) rs, ()) ∧ ws.length * 16 ≤ 140737488355328 ∧ ∃ (s : US), W = s.W ∧ steps = s.steps ∧ Z105 (ws = s.ws ∧ (0 : Int) =
 (↑s.n : Int) ∧ (s.W.length = 34 ∧ s.ws.length ≤ 9 ∧ datL s.ws ∧ DoneL (100 : Nat) s.ws s.W ∧ s.n ≤ s.ws.length) ∧ (100 : Nat) - s.n < 10000 - n ∧ True))) := by kernel_rfl
theorem wa_2N_ok (l p : List Op) (cl w : Int) (s : US) (hI : (cut2 true (shN p) (ob3 p)).I s) : Paid (cW l p cl w 25 (cut2 true (shN p) (ob3 p)) s) := by
  obtain ⟨n, i, rd, rs, ws, xi, a, c, bk, value, steps, asked, W, rows⟩ := s
  obtain ⟨⟨⟨⟨hpO, hc, hi, hrd, hrs, hws, hwd, hrr⟩, hnod⟩, ⟨he, hW⟩, hdone⟩, hn⟩ := hI
  have hW : W.length = 34 := hW
  have hdone : DoneL 100 ws W := hdone
  have he : i = p.length + 1 := he
  have hi : i ≤ p.length + 1 := hi
  have hrs : rs.length ≤ i := hrs
  have hws : ws.length ≤ i := hws
  have hwd : ∀ w ∈ ws, isData w.pl := hwd
  have hB : ∀ {n xi : Nat} {a bk value steps asked : Int} {W rows : List Int}, baseI p ⟨n, i, rd, rs, ws, xi, a, c, bk, value, steps, asked, W, rows⟩ := mkBase hpO hc hi hrd hrs hws hwd hrr
  have hp8 := hpO.1
  have hn : n + (0) ≤ 200 := hn
  refine ⟨?_⟩
  rw [wa_2N]
  refine ⟨?_, ?_⟩
  · intro h1
    replace h1 := of_decide_eq_true h1
    first
    | (exfalso; omega)
    | (refine ⟨(show rs.length ≤ 1000 by omega), (show ws.length * (16 : Nat) ≤ (140737488355328 : Nat) by omega), ?_⟩
       exact ⟨⟨0, i, rd, rs, ws, xi, a, c, bk, value, steps, asked, W, rows⟩, ⟨rfl, rfl, t105 ⟨rfl, rfl, ⟨hW, (show (ws).length ≤ (9 : Nat) by omega), hwd, hdone, (show (0) ≤ (ws).length by omega)⟩, (show (100 : Nat) - (0) < (10000 : Nat) - n by omega), trivial⟩⟩⟩)
  · intro h2
    replace h2 := of_decide_eq_false h2
    first
    | (exfalso; omega)
    | (refine ⟨(show rs.length ≤ 1000 by omega), (show ws.length * (16 : Nat) ≤ (140737488355328 : Nat) by omega), ?_⟩
       exact ⟨⟨0, i, rd, rs, ws, xi, a, c, bk, value, steps, asked, W, rows⟩, ⟨rfl, rfl, t105 ⟨rfl, rfl, ⟨hW, (show (ws).length ≤ (9 : Nat) by omega), hwd, hdone, (show (0) ≤ (ws).length by omega)⟩, (show (100 : Nat) - (0) < (10000 : Nat) - n by omega), trivial⟩⟩⟩)
theorem wa_2P : Go.Sy.Tree.holds (cW l p cl w 25 (cut2 false (shP p) (ob4 p)) ⟨n, i, rd, rs, ws, xi, a, c, bk, value, steps, asked, W, rows⟩) = ( (decide ((↑n : Int) < 200) = true → ∃ (s : (dP p).St), p = p ∧ rd = s.rd ∧
 rs = s.rs ∧ ws = s.ws ∧ wRv (1 : Int) a (2 : Int) (List.drop xi rows) = wRv (1 : Int) s.a (2 : Int) (List.drop s.xi s.rows) ∧ takT rows = takT s.rows ∧ Z39 (steps = s.steps ∧ Q 32 ∧ filtT ws = filtT s.ws ∧ asked =
 s.asked ∧ Z71 ((↑xi : Int) = (↑s.xi : Int) ∧ Z72 ((dP p).I s ∧ (∀ (y : (oPP p).St), (oPP p).I s y → ∃ (s : US), Z2 (wRv (1 : Int) y.a (2 : Int) (List.drop y.xi y.rows) = wRv (1 : Int) s.a (2 : Int) (List.drop s.xi
 s.rows) ∧ y.steps = s.steps ∧ Z7 (y.rs = s.rs ∧ Q 32 ∧ y.ws = s.ws ∧ filtT y.ws = filtT s.ws ∧ y.asked = s.asked ∧ Z104 ((↑y.xi : Int) = (↑s.xi : Int) ∧ Z73 (takT y.rows = takT s.rows ∧ Qb true ∧ p = p ∧ Z16 (y.rd = s.rd
 ∧ Qb false ∧ IntKind.i64.wrap ((↑n : Int) + 1) = (↑s.n : Int) ∧ ((shP p).I s ∧ s.n + (shP p).R s ≤ 200) ∧ (10000 : Nat) - s.n < 10000 - n ∧ True)))))) ∧ (∀ (y : (oPQ p).St), (oPQ p).I s y → ∃ (s : US), Z2 (wV (1 : Int)
 y.a (0 : Int) (0 : Int) (0 : Int) (0 : Int) = wV (1 : Int) s.a (0 : Int) (0 : Int) (0 : Int) (0 : Int) ∧ y.steps = s.steps ∧ Z7 (y.rs = s.rs ∧ Q 32 ∧ y.ws = s.ws ∧ filtT y.ws = filtT s.ws ∧ y.asked = s.asked ∧ Z103 (p =
 p ∧ Q 2 ∧ y.rd = s.rd ∧ Qb false ∧ IntKind.i64.wrap ((↑n : Int) + 1) = (↑s.n : Int) ∧ ((shQ p).I s ∧ s.n + (shQ p).R s ≤ 200) ∧ (10000 : Nat) - s.n < 10000 - n ∧ True)))) ∧ True)))) ∧ (decide ((↑n : Int) < 200) = false →
 keysD.pre (Rs.mk (32 : Int) rs, ()) ∧ ws.length * 16 ≤ 140737488355328 ∧ ∃ (s : US), wRv (1 : Int) a (2 : Int) (List.drop xi rows) = wV (1 : Int) s.a (0 : Int) (0 : Int) (0 : Int) (0 : Int) ∧ steps = s.steps ∧ Q 3 ∧
 AVal.int IntKind.i64 0 = AVal.int IntKind.i64 2 ∧ Qb false ∧ ws = s.ws ∧ (0 : Int) = (↑s.n : Int) ∧ (s.ws.length ≤ 9 ∧ datL s.ws ∧ s.n ≤ s.ws.length) ∧ (100 : Nat) - s.n < 10000 - n ∧ True)) := by kernel_rfl
theorem wa_2P_ok (l p : List Op) (cl w : Int) (s : US) (hI : (cut2 false (shP p) (ob4 p)).I s) : Paid (cW l p cl w 25 (cut2 false (shP p) (ob4 p)) s) := by
  obtain ⟨n, i, rd, rs, ws, xi, a, c, bk, value, steps, asked, W, rows⟩ := s
  have hI0 := hI
  obtain ⟨hS, _⟩ := hI
  obtain ⟨⟨⟨⟨hpO, hc, hi, hrd, hrs, hws, hwd, hrr⟩, hnod⟩, hT, hx⟩, hn⟩ := hI0
  have hx : xi ≤ rows.length := hx
  have hrl := rows_len rows hT
  have hi : i ≤ p.length + 1 := hi
  have hrs : rs.length ≤ i := hrs
  have hws : ws.length ≤ i := hws
  have hp8 := hpO.1
  have hn : n + (20 - xi) ≤ 200 := hn
  refine ⟨?_⟩
  rw [wa_2P]
  refine ⟨?_, ?_⟩
  · intro h1
    replace h1 := of_decide_eq_true h1
    first
    | (exfalso; omega)
    | (refine ⟨⟨1, i, rd, rs, ws, xi, a, c, bk, value, steps, asked, W, rows⟩, ⟨rfl, rfl, rfl, rfl, rfl, rfl, t39 ⟨rfl, rfl, rfl, rfl, t71 ⟨rfl, t72 ⟨⟨hS, (show 1 ≤ 1 by decide)⟩, ?_, ?_, trivial⟩⟩⟩⟩⟩
       · intro y hy2_
         obtain ⟨_, hy1, hyn, hyR⟩ := hy2_
         have hyn : y.n = 1 := hyn
         have hyR : 20 - y.xi < 20 - xi := hyR
         exact ⟨⟨n + 1, y.i, y.rd, y.rs, y.ws, y.xi, y.a, y.c, y.bk, y.value, y.steps, y.asked, y.W, y.rows⟩, (t2 ⟨rfl, rfl, t7 ⟨rfl, rfl, rfl, rfl, rfl, t104 ⟨rfl, t73 ⟨rfl, rfl, rfl, t16 ⟨rfl, rfl, (wN (by omega)), ⟨hy1, (show n + 1 + (20 - y.xi) ≤ 200 by omega)⟩, (show (10000 : Nat) - (n + 1) < (10000 : Nat) - n by omega), trivial⟩⟩⟩⟩⟩)⟩
       · intro y hy3_
         obtain ⟨_, hy1, hyn, hyR⟩ := hy3_
         have hyn : y.n = 1 := hyn
         have hyR : 0 < 20 - xi := hyR
         exact ⟨⟨n + 1, y.i, y.rd, y.rs, y.ws, y.xi, y.a, y.c, y.bk, y.value, y.steps, y.asked, y.W, y.rows⟩, (t2 ⟨rfl, rfl, t7 ⟨rfl, rfl, rfl, rfl, rfl, t103 ⟨rfl, rfl, rfl, rfl, (wN (by omega)), ⟨hy1, (show n + 1 + (0) ≤ 200 by omega)⟩, (show (10000 : Nat) - (n + 1) < (10000 : Nat) - n by omega), trivial⟩⟩⟩)⟩)
  · intro h4
    replace h4 := of_decide_eq_false h4
    first
    | (exfalso; omega)
    | (refine ⟨(show rs.length ≤ 1000 by omega), (show ws.length * (16 : Nat) ≤ (140737488355328 : Nat) by omega), ?_⟩
       exact ⟨⟨0, i, rd, rs, ws, xi, a, c, bk, value, steps, asked, W, rows⟩, ⟨rfl, rfl, rfl, (by exfalso; omega), rfl, rfl, rfl, ⟨(show (ws).length ≤ (9 : Nat) by omega), hwd, (show (0) ≤ (ws).length by omega)⟩, (show (100 : Nat) - (0) < (10000 : Nat) - n by omega), trivial⟩⟩)
theorem wa_2Q : Go.Sy.Tree.holds (cW l p cl w 25 (cut2 false (shQ p) (ob3 p)) ⟨n, i, rd, rs, ws, xi, a, c, bk, value, steps, asked, W, rows⟩) = ( (decide ((↑n : Int) < 200) = true → keysD.pre (Rs.mk (32 : Int) rs, ()) ∧
 ws.length * 16 ≤ 140737488355328 ∧ ∃ (s : US), wV (1 : Int) a (0 : Int) (0 : Int) (0 : Int) (0 : Int) = wV (1 : Int) s.a (0 : Int) (0 : Int) (0 : Int) (0 : Int) ∧ steps = s.steps ∧ Z106 (ws = s.ws ∧ (0 : Int) = (↑s.n :
 Int) ∧ (s.ws.length ≤ 9 ∧ datL s.ws ∧ s.n ≤ s.ws.length) ∧ (100 : Nat) - s.n < 10000 - n ∧ True)) ∧ (decide ((↑n : Int) < 200) = false → keysD.pre (Rs.mk (32 : Int) rs, ()) ∧ ws.length * 16 ≤ 140737488355328 ∧ ∃ (s :
 US), wV (1 : Int) a (0 : Int) (0 : Int) (0 : Int) (0 : Int) = wV (1 : Int) s.a (0 : Int) (0 : Int) (0 : Int) (0 : Int) ∧ steps = s.steps ∧ Z106 (ws = s.ws ∧ (0 : Int) = (↑s.n : Int) ∧ (s.ws.length ≤ 9 ∧ datL s.ws ∧ s.n ≤
 s.ws.length) ∧ (100 : Nat) - s.n < 10000 - n ∧ True))) := by kernel_rfl
theorem wa_2Q_ok (l p : List Op) (cl w : Int) (s : US) (hI : (cut2 false (shQ p) (ob3 p)).I s) : Paid (cW l p cl w 25 (cut2 false (shQ p) (ob3 p)) s) := by
  obtain ⟨n, i, rd, rs, ws, xi, a, c, bk, value, steps, asked, W, rows⟩ := s
  obtain ⟨⟨⟨⟨hpO, hc, hi, hrd, hrs, hws, hwd, hrr⟩, hnod⟩, _⟩, hn⟩ := hI
  have hi : i ≤ p.length + 1 := hi
  have hrs : rs.length ≤ i := hrs
  have hws : ws.length ≤ i := hws
  have hwd : ∀ w ∈ ws, isData w.pl := hwd
  have hB : ∀ {n xi : Nat} {a bk value steps asked : Int} {W rows : List Int}, baseI p ⟨n, i, rd, rs, ws, xi, a, c, bk, value, steps, asked, W, rows⟩ := mkBase hpO hc hi hrd hrs hws hwd hrr
  have hp8 := hpO.1
  have hn : n + (0) ≤ 200 := hn
  refine ⟨?_⟩
  rw [wa_2Q]
  refine ⟨?_, ?_⟩
  · intro h1
    replace h1 := of_decide_eq_true h1
    first
    | (exfalso; omega)
    | (refine ⟨(show rs.length ≤ 1000 by omega), (show ws.length * (16 : Nat) ≤ (140737488355328 : Nat) by omega), ?_⟩
       exact ⟨⟨0, i, rd, rs, ws, xi, a, c, bk, value, steps, asked, W, rows⟩, ⟨rfl, rfl, t106 ⟨rfl, rfl, ⟨(show (ws).length ≤ (9 : Nat) by omega), hwd, (show (0) ≤ (ws).length by omega)⟩, (show (100 : Nat) - (0) < (10000 : Nat) - n by omega), trivial⟩⟩⟩)
  · intro h2
    replace h2 := of_decide_eq_false h2
    first
    | (exfalso; omega)
    | (refine ⟨(show rs.length ≤ 1000 by omega), (show ws.length * (16 : Nat) ≤ (140737488355328 : Nat) by omega), ?_⟩
       exact ⟨⟨0, i, rd, rs, ws, xi, a, c, bk, value, steps, asked, W, rows⟩, ⟨rfl, rfl, t106 ⟨rfl, rfl, ⟨(show (ws).length ≤ (9 : Nat) by omega), hwd, (show (0) ≤ (ws).length by omega)⟩, (show (100 : Nat) - (0) < (10000 : Nat) - n by omega), trivial⟩⟩⟩)
theorem wa_z1 : Go.Sy.Tree.holds (cW l p cl w 30 z1 ⟨n, i, rd, rs, ws, xi, a, c, bk, value, steps, asked, W, rows⟩) = ( (decide ((↑n : Int) < (↑ws.length : Int)) = true → ((0 : Int) ≤ (↑n : Int) ∧ (↑n : Int) < (↑ws.length
 : Int)) ∧ ((0 : Int) ≤ (↑n : Int) ∧ (↑n : Int) < (↑ws.length : Int)) ∧ badD.pre (Mw.mk W, (at3 ws (↑n : Int)).pl, ()) ∧ ((0 : Int) ≤ (at3 ws (↑n : Int)).pl ∧ (at3 ws (↑n : Int)).pl < (↑W.length : Int)) ∧ ((0 : Int) ≤
 (at3 ws (↑n : Int)).pl ∧ (at3 ws (↑n : Int)).pl < (↑W.length : Int)) ∧ ((0 : Int) ≤ (↑n : Int) ∧ (↑n : Int) < (↑ws.length : Int)) ∧ ((0 : Int) ≤ (↑n : Int) ∧ (↑n : Int) < (↑ws.length : Int)) ∧ ((!(at0 W (at3 ws (↑n :
 Int)).pl == (at3 ws (↑n : Int)).vl) == true) = true → ((0 : Int) ≤ (↑n : Int) ∧ (↑n : Int) < (↑ws.length : Int)) ∧ ((0 : Int) ≤ (↑n : Int) ∧ (↑n : Int) < (↑ws.length : Int)) ∧ (((at3 ws (↑n : Int)).vl != 0) = true →
 false = true ∧ True) ∧ (((at3 ws (↑n : Int)).vl != 0) = false → ∃ (s : US), W = s.W ∧ steps = s.steps ∧ Z105 (ws = s.ws ∧ IntKind.i64.wrap ((↑n : Int) + 1) = (↑s.n : Int) ∧ (s.W.length = 34 ∧ s.ws.length ≤ 9 ∧ datL s.ws
 ∧ DoneL (100 : Nat) s.ws s.W ∧ s.n ≤ s.ws.length) ∧ (100 : Nat) - s.n < 100 - n ∧ True))) ∧ ((!(at0 W (at3 ws (↑n : Int)).pl == (at3 ws (↑n : Int)).vl) == true) = false → ∃ (s : US), W = s.W ∧ steps = s.steps ∧ Z105 (ws
 = s.ws ∧ IntKind.i64.wrap ((↑n : Int) + 1) = (↑s.n : Int) ∧ (s.W.length = 34 ∧ s.ws.length ≤ 9 ∧ datL s.ws ∧ DoneL (100 : Nat) s.ws s.W ∧ s.n ≤ s.ws.length) ∧ (100 : Nat) - s.n < 100 - n ∧ True))) ∧ (decide ((↑n : Int) <
 (↑ws.length : Int)) = false → true = true ∧ True)) := by kernel_rfl
theorem wa_z1_ok (l p : List Op) (cl w : Int) (s : US) (hI : z1.I s) : Paid (cW l p cl w 30 z1 s) := by
  obtain ⟨n, i, rd, rs, ws, xi, a, c, bk, value, steps, asked, W, rows⟩ := s
  obtain ⟨hW, h9, hwd, hdone, hn⟩ := hI
  have hW : W.length = 34 := hW
  have hdone : DoneL 100 ws W := hdone
  have h9 : ws.length ≤ 9 := h9
  have hwd : ∀ w ∈ ws, isData w.pl := hwd
  have hn : n ≤ ws.length := hn
  refine ⟨?_⟩
  rw [wa_z1]
  refine ⟨?_, ?_⟩
  · intro h1
    replace h1 := of_decide_eq_true h1
    first
    | (exfalso; omega)
    | (have hv := ws_data hwd (show n < ws.length by omega)
       refine ⟨?_, ?_, (And.intro (show (0 : Int) ≤ (at3 ws (↑n : Int)).pl from (data_lt hv).1) (show (at3 ws (↑n : Int)).pl < ((Mw.mk W).ws.length : Int) from (by rw [hW]; exact (data_lt hv).2))), ?_, ?_, ?_, ?_, ?_, ?_⟩
       · exact ⟨(by omega), (by omega)⟩
       · exact ⟨(by omega), (by omega)⟩
       · exact ⟨(data_lt hv).1, (by rw [hW]; exact (data_lt hv).2)⟩
       · exact ⟨(data_lt hv).1, (by rw [hW]; exact (data_lt hv).2)⟩
       · exact ⟨(by omega), (by omega)⟩
       · exact ⟨(by omega), (by omega)⟩
       · intro h2
         rw [hdone n (by omega) (by omega), beq_self_eq_true] at h2
         cases h2
       · intro h3
         exact ⟨⟨n + 1, i, rd, rs, ws, xi, a, c, bk, value, steps, asked, W, rows⟩, ⟨rfl, rfl, t105 ⟨rfl, (wN (by omega)), ⟨hW, (show (ws).length ≤ (9 : Nat) by omega), hwd, hdone, (show (n + 1) ≤ (ws).length by omega)⟩, (show (100 : Nat) - (n + 1) < (100 : Nat) - n by omega), trivial⟩⟩⟩)
  · intro h4
    replace h4 := of_decide_eq_false h4
    first
    | (exfalso; omega)
    | (exact ⟨rfl, trivial⟩)
theorem wa_z2 : Go.Sy.Tree.holds (cW l p cl w 30 z2 ⟨n, i, rd, rs, ws, xi, a, c, bk, value, steps, asked, W, rows⟩) = ( (decide ((↑n : Int) < (↑ws.length : Int)) = true → ((0 : Int) ≤ (↑n : Int) ∧ (↑n : Int) < (↑ws.length
 : Int)) ∧ ((0 : Int) ≤ (↑n : Int) ∧ (↑n : Int) < (↑ws.length : Int)) ∧ badD.pre (Mw.mk (wV (1 : Int) a (0 : Int) (0 : Int) (0 : Int) (0 : Int)), (at3 ws (↑n : Int)).pl, ()) ∧ ((0 : Int) ≤ (at3 ws (↑n : Int)).pl ∧ (at3 ws
 (↑n : Int)).pl < (↑(wV (1 : Int) a (0 : Int) (0 : Int) (0 : Int) (0 : Int)).length : Int)) ∧ ((0 : Int) ≤ (at3 ws (↑n : Int)).pl ∧ (at3 ws (↑n : Int)).pl < (↑(wV (1 : Int) a (0 : Int) (0 : Int) (0 : Int) (0 :
 Int)).length : Int)) ∧ ((0 : Int) ≤ (↑n : Int) ∧ (↑n : Int) < (↑ws.length : Int)) ∧ ((0 : Int) ≤ (↑n : Int) ∧ (↑n : Int) < (↑ws.length : Int)) ∧ ((!(at0 (wV (1 : Int) a (0 : Int) (0 : Int) (0 : Int) (0 : Int)) (at3 ws
 (↑n : Int)).pl == (at3 ws (↑n : Int)).vl) == false) = true → ((0 : Int) ≤ (↑n : Int) ∧ (↑n : Int) < (↑ws.length : Int)) ∧ ((0 : Int) ≤ (↑n : Int) ∧ (↑n : Int) < (↑ws.length : Int)) ∧ (((at3 ws (↑n : Int)).vl != 0) = true
 → false = true ∧ True) ∧ (((at3 ws (↑n : Int)).vl != 0) = false → ∃ (s : US), wV (1 : Int) a (0 : Int) (0 : Int) (0 : Int) (0 : Int) = wV (1 : Int) s.a (0 : Int) (0 : Int) (0 : Int) (0 : Int) ∧ steps = s.steps ∧ Z106 (ws
 = s.ws ∧ IntKind.i64.wrap ((↑n : Int) + 1) = (↑s.n : Int) ∧ (s.ws.length ≤ 9 ∧ datL s.ws ∧ s.n ≤ s.ws.length) ∧ (100 : Nat) - s.n < 100 - n ∧ True))) ∧ ((!(at0 (wV (1 : Int) a (0 : Int) (0 : Int) (0 : Int) (0 : Int))
 (at3 ws (↑n : Int)).pl == (at3 ws (↑n : Int)).vl) == false) = false → ∃ (s : US), wV (1 : Int) a (0 : Int) (0 : Int) (0 : Int) (0 : Int) = wV (1 : Int) s.a (0 : Int) (0 : Int) (0 : Int) (0 : Int) ∧ steps = s.steps ∧ Z106
 (ws = s.ws ∧ IntKind.i64.wrap ((↑n : Int) + 1) = (↑s.n : Int) ∧ (s.ws.length ≤ 9 ∧ datL s.ws ∧ s.n ≤ s.ws.length) ∧ (100 : Nat) - s.n < 100 - n ∧ True))) ∧ (decide ((↑n : Int) < (↑ws.length : Int)) = false → true = true
 ∧ True)) := by kernel_rfl
theorem wa_z2_ok (l p : List Op) (cl w : Int) (s : US) (hI : z2.I s) : Paid (cW l p cl w 30 z2 s) := by
  obtain ⟨n, i, rd, rs, ws, xi, a, c, bk, value, steps, asked, W, rows⟩ := s
  obtain ⟨h9, hwd, hn⟩ := hI
  have h9 : ws.length ≤ 9 := h9
  have hwd : ∀ w ∈ ws, isData w.pl := hwd
  have hn : n ≤ ws.length := hn
  refine ⟨?_⟩
  rw [wa_z2]
  refine ⟨?_, ?_⟩
  · intro h1
    replace h1 := of_decide_eq_true h1
    first
    | (exfalso; omega)
    | (have hv := ws_data hwd (show n < ws.length by omega)
       refine ⟨?_, ?_, (And.intro (show (0 : Int) ≤ (at3 ws (↑n : Int)).pl from (data_lt hv).1) (show (at3 ws (↑n : Int)).pl < ((Mw.mk (wV (1 : Int) a (0 : Int) (0 : Int) (0 : Int) (0 : Int))).ws.length : Int) from (show _ < ((34 : Nat) : Int) from (data_lt hv).2))), ?_, ?_, ?_, ?_, ?_, ?_⟩
       · exact ⟨(by omega), (by omega)⟩
       · exact ⟨(by omega), (by omega)⟩
       · exact ⟨(data_lt hv).1, (show _ < ((34 : Nat) : Int) from (data_lt hv).2)⟩
       · exact ⟨(data_lt hv).1, (show _ < ((34 : Nat) : Int) from (data_lt hv).2)⟩
       · exact ⟨(by omega), (by omega)⟩
       · exact ⟨(by omega), (by omega)⟩
       · intro h2
         rw [wV_d _ _ hv] at h2
         have e0 : (0 : Int) = (at3 ws (n : Int)).vl := by simpa using h2
         refine ⟨?_, ?_, ?_, ?_⟩
         · exact ⟨(by omega), (by omega)⟩
         · exact ⟨(by omega), (by omega)⟩
         · intro h3
           rw [← e0] at h3
           cases h3
         · intro h4
           exact ⟨⟨n + 1, i, rd, rs, ws, xi, a, c, bk, value, steps, asked, W, rows⟩, ⟨rfl, rfl, t106 ⟨rfl, (wN (by omega)), ⟨(show (ws).length ≤ (9 : Nat) by omega), hwd, (show (n + 1) ≤ (ws).length by omega)⟩, (show (100 : Nat) - (n + 1) < (100 : Nat) - n by omega), trivial⟩⟩⟩
       · intro h5
         exact ⟨⟨n + 1, i, rd, rs, ws, xi, a, c, bk, value, steps, asked, W, rows⟩, ⟨rfl, rfl, t106 ⟨rfl, (wN (by omega)), ⟨(show (ws).length ≤ (9 : Nat) by omega), hwd, (show (n + 1) ≤ (ws).length by omega)⟩, (show (100 : Nat) - (n + 1) < (100 : Nat) - n by omega), trivial⟩⟩⟩)
  · intro h6
    replace h6 := of_decide_eq_false h6
    first
    | (exfalso; omega)
    | (exact ⟨rfl, trivial⟩)
theorem wa_9 (l p : List Op) (cl w : Int) (k : Nat) : Go.Sy.Tree.holds (cW l p cl w 9 (planW l cl w) k) = ( (decide ((↑k : Int) < (↑l.length : Int)) = true → ((0 : Int) ≤ (↑k : Int) ∧ (↑k : Int) < (↑l.length : Int)) ∧ ((0
 : Int) ≤ (↑k : Int) ∧ (↑k : Int) < (↑l.length : Int)) ∧ ((0 : Int) ≤ (↑k : Int) ∧ (↑k : Int) < (↑l.length : Int)) ∧ ((List.map opT (List.take k l)).length + [Op.mk (IntKind.i64.wrap ((IntKind.u64.wrap (at2 l (↑k :
 Int)).kd).tmod 2)) (IntKind.i64.wrap ((IntKind.u64.wrap (at2 l (↑k : Int)).pl).tmod 4)) (at2 l (↑k : Int)).vl].length) * 24 ≤ 140737488355328 ∧ ∃ (s : Nat), cl = cl ∧ l = l ∧ w = w ∧ Z2 (w0 = w0 ∧ Z1 (List.map opT
 (List.take k l) ++ [Op.mk (IntKind.i64.wrap ((IntKind.u64.wrap (at2 l (↑k : Int)).kd).tmod 2)) (IntKind.i64.wrap ((IntKind.u64.wrap (at2 l (↑k : Int)).pl).tmod 4)) (at2 l (↑k : Int)).vl] = List.map opT (List.take s l) ∧
 IntKind.i64.wrap ((↑k : Int) + 1) = (↑s : Int) ∧ (s ≤ l.length ∧ l.length ≤ 8) ∧ (3000000 : Nat) - s < 3000000 - k ∧ True))) ∧ (decide ((↑k : Int) < (↑l.length : Int)) = false → threadD.pre (mp1, (1 : Int), (0 : Int),
 ()) ∧ (decide (IntKind.i64.wrap ((1 : Int) + IntKind.i64.wrap ((IntKind.u64.wrap cl).tmod 2)) < 1) = true → false = true ∧ True) ∧ (decide (IntKind.i64.wrap ((1 : Int) + IntKind.i64.wrap ((IntKind.u64.wrap cl).tmod 2)) <
 1) = false → (decide (IntKind.i64.wrap ((1 : Int) + IntKind.i64.wrap ((IntKind.u64.wrap cl).tmod 2)) > 2) = true → false = true ∧ True) ∧ (decide (IntKind.i64.wrap ((1 : Int) + IntKind.i64.wrap ((IntKind.u64.wrap
 cl).tmod 2)) > 2) = false → sizeD.pre (mp1, ()) ∧ (false = true → (decide ((0 : Int) > (↑(List.map opT (List.take k l)).length : Int)) = true → lockD.pre (mp1, (0 : Int), (4 : Int), ()) ∧ ∃ (s : US), w = w ∧ Z2 (w0 = s.W
 ∧ (0 : Int) = s.steps ∧ Z107 (AVal.int IntKind.i64 (bif false then if (bif true then if (32 : Int) < 0 then (0 : Int) else (32 : Int) else if (0 : Int) < 32 then (0 : Int) else (32 : Int)) < 32 then (32 : Int) else bif
 true then if (32 : Int) < 0 then (0 : Int) else (32 : Int) else if (0 : Int) < 32 then (0 : Int) else (32 : Int) else if (32 : Int) < bif true then if (32 : Int) < 0 then (0 : Int) else (32 : Int) else if (0 : Int) < 32
 then (0 : Int) else (32 : Int) then (32 : Int) else bif true then if (32 : Int) < 0 then (0 : Int) else (32 : Int) else if (0 : Int) < 32 then (0 : Int) else (32 : Int)) = AVal.int IntKind.i64 32 ∧ [] = s.rs ∧ AVal.int
 IntKind.i64 (bif false then if (bif true then if (32 : Int) < 0 then (0 : Int) else (32 : Int) else if (0 : Int) < 32 then (0 : Int) else (32 : Int)) < 32 then (32 : Int) else bif true then if (32 : Int) < 0 then (0 :
 Int) else (32 : Int) else if (0 : Int) < 32 then (0 : Int) else (32 : Int) else if (32 : Int) < bif true then if (32 : Int) < 0 then (0 : Int) else (32 : Int) else if (0 : Int) < 32 then (0 : Int) else (32 : Int) then
 (32 : Int) else bif true then if (32 : Int) < 0 then (0 : Int) else (32 : Int) else if (0 : Int) < 32 then (0 : Int) else (32 : Int)) = AVal.int IntKind.i64 32 ∧ [] = s.ws ∧ (0 : Int) = filtT s.ws ∧ (0 : Int) = s.asked ∧
 constA (Value.int IntKind.i64 (1 : Int)) = AVal.int IntKind.i64 2 ∧ constA (Value.int IntKind.i64 (1 : Int)) = AVal.int IntKind.i64 0 ∧ (0 : Int) = s.value ∧ List.map opT (List.take k l) = p ∧ (0 : Int) = (↑s.i : Int) ∧
 constA (Value.bool false) = AVal.bool false ∧ Qc 1 ∧ [] = s.rd ∧ Q 9 ∧ (0 : Int) = (↑s.n : Int) ∧ ((shN p).I s ∧ s.n ≤ 60) ∧ (1000000 : Nat) - s.n < 3000000 - k ∧ True))) ∧ (decide ((0 : Int) > (↑(List.map opT (List.take
 k l)).length : Int)) = false → lockD.pre (mp1, (0 : Int), (4 : Int), ()) ∧ Stuck "sel: which")) ∧ (false = false → clockD.pre (mp1, ()) ∧ badD.pre (Mw.mk w0, (0 : Int), ()) ∧ Bl 0 ∧ Bl 0 ∧ (decide ((0 : Int) >
 (↑(List.map opT (List.take k l)).length : Int)) = true → lockD.pre (mp1, (0 : Int), (4 : Int), ()) ∧ ∃ (s : US), w = w ∧ Z2 (w0 = s.W ∧ (1 : Int) = s.steps ∧ Z107 (AVal.int IntKind.i64 (bif false then if (bif true then
 if (32 : Int) < 0 then (0 : Int) else (32 : Int) else if (0 : Int) < 32 then (0 : Int) else (32 : Int)) < 32 then (32 : Int) else bif true then if (32 : Int) < 0 then (0 : Int) else (32 : Int) else if (0 : Int) < 32 then
 (0 : Int) else (32 : Int) else if (32 : Int) < bif true then if (32 : Int) < 0 then (0 : Int) else (32 : Int) else if (0 : Int) < 32 then (0 : Int) else (32 : Int) then (32 : Int) else bif true then if (32 : Int) < 0
 then (0 : Int) else (32 : Int) else if (0 : Int) < 32 then (0 : Int) else (32 : Int)) = AVal.int IntKind.i64 32 ∧ [] = s.rs ∧ AVal.int IntKind.i64 (bif false then if (bif true then if (32 : Int) < 0 then (0 : Int) else
 (32 : Int) else if (0 : Int) < 32 then (0 : Int) else (32 : Int)) < 32 then (32 : Int) else bif true then if (32 : Int) < 0 then (0 : Int) else (32 : Int) else if (0 : Int) < 32 then (0 : Int) else (32 : Int) else if (32
 : Int) < bif true then if (32 : Int) < 0 then (0 : Int) else (32 : Int) else if (0 : Int) < 32 then (0 : Int) else (32 : Int) then (32 : Int) else bif true then if (32 : Int) < 0 then (0 : Int) else (32 : Int) else if (0
 : Int) < 32 then (0 : Int) else (32 : Int)) = AVal.int IntKind.i64 32 ∧ [] = s.ws ∧ (0 : Int) = filtT s.ws ∧ (0 : Int) = s.asked ∧ constA (Value.int IntKind.i64 (1 : Int)) = AVal.int IntKind.i64 2 ∧ Qc 0 ∧ (0 : Int) =
 s.value ∧ List.map opT (List.take k l) = p ∧ (0 : Int) = (↑s.i : Int) ∧ constA (Value.bool false) = AVal.bool false ∧ Qc 1 ∧ [] = s.rd ∧ Q 9 ∧ (0 : Int) = (↑s.n : Int) ∧ ((shN p).I s ∧ s.n ≤ 60) ∧ (1000000 : Nat) - s.n <
 3000000 - k ∧ True))) ∧ (decide ((0 : Int) > (↑(List.map opT (List.take k l)).length : Int)) = false → lockD.pre (mp1, (0 : Int), (4 : Int), ()) ∧ ∃ (s : US), w = w ∧ Z2 (w0 = wV (0 : Int) 0 0 0 0 0 ∧ (1 : Int) = s.steps
 ∧ Z3 (IntKind.i64.wrap ((1 : Int) + IntKind.i64.wrap ((IntKind.u64.wrap cl).tmod 2)) = s.c ∧ Qc 1000 ∧ AVal.int IntKind.i64 (bif false then if (bif true then if (32 : Int) < 0 then (0 : Int) else (32 : Int) else if (0 :
 Int) < 32 then (0 : Int) else (32 : Int)) < 32 then (32 : Int) else bif true then if (32 : Int) < 0 then (0 : Int) else (32 : Int) else if (0 : Int) < 32 then (0 : Int) else (32 : Int) else if (32 : Int) < bif true then
 if (32 : Int) < 0 then (0 : Int) else (32 : Int) else if (0 : Int) < 32 then (0 : Int) else (32 : Int) then (32 : Int) else bif true then if (32 : Int) < 0 then (0 : Int) else (32 : Int) else if (0 : Int) < 32 then (0 :
 Int) else (32 : Int)) = AVal.int IntKind.i64 32 ∧ [] = s.rs ∧ AVal.int IntKind.i64 (bif false then if (bif true then if (32 : Int) < 0 then (0 : Int) else (32 : Int) else if (0 : Int) < 32 then (0 : Int) else (32 : Int))
 < 32 then (32 : Int) else bif true then if (32 : Int) < 0 then (0 : Int) else (32 : Int) else if (0 : Int) < 32 then (0 : Int) else (32 : Int) else if (32 : Int) < bif true then if (32 : Int) < 0 then (0 : Int) else (32
 : Int) else if (0 : Int) < 32 then (0 : Int) else (32 : Int) then (32 : Int) else bif true then if (32 : Int) < 0 then (0 : Int) else (32 : Int) else if (0 : Int) < 32 then (0 : Int) else (32 : Int)) = AVal.int
 IntKind.i64 32 ∧ [] = s.ws ∧ (0 : Int) = filtT s.ws ∧ (0 : Int) = s.asked ∧ [Wo.mk (9 : Int) (0 : Int)] = wat ∧ Z10 ((0 : Int) = s.value ∧ AVal.int IntKind.i64 (at0 w0 (0 : Int)) = AVal.int IntKind.i64 0 ∧ Z11 (constA
 (Value.slice none (0 : Nat) (0 : Nat)) = AVal.nils ∧ constA (Value.slice none (0 : Nat) (0 : Nat)) = AVal.nils ∧ constA (Value.bool false) = AVal.bool false ∧ List.map opT (List.take k l) = p ∧ (1 : Int) = (↑s.i : Int) ∧
 constA (Value.bool false) = AVal.bool false ∧ Q 0 ∧ [] = s.rd ∧ Q 9 ∧ (0 : Int) = (↑s.n : Int) ∧ ((shA p (0 : Int)).I s ∧ s.n ≤ 60) ∧ (1000000 : Nat) - s.n < 3000000 - k ∧ True)))))))))) := by kernel_rfl
theorem wa_9_ok (l : List Op) (cl w : Int) (k : Nat) (hI : k ≤ l.length ∧ l.length ≤ 8) : Paid (cutS F (lookC (lW (l.map opT))) 3000 Try.f5 b5 (fW l (l.map opT) cl w) selW 9 (planW l cl w) k) := by
  obtain ⟨hk, hl8⟩ := hI
  have hcl := cl_le cl
  refine ⟨?_⟩
  rw [wa_9]
  refine ⟨?_, ?_⟩
  · intro h1
    replace h1 := of_decide_eq_true h1
    first
    | (exfalso; omega)
    | (refine ⟨?_, ?_, ?_, (by simp only [List.length_map, List.length_take, List.length_cons, List.length_nil]; omega), ?_⟩
       · exact ⟨(by omega), (by first | omega | (simp only [tak_len] at *; omega))⟩
       · exact ⟨(by omega), (by first | omega | (simp only [tak_len] at *; omega))⟩
       · exact ⟨(by omega), (by first | omega | (simp only [tak_len] at *; omega))⟩
       · exact ⟨k + 1, ⟨rfl, rfl, rfl, t2 ⟨rfl, t1 ⟨(take_opT (by omega)), (wN (by omega)), ⟨(by omega), (by omega)⟩, (by omega), trivial⟩⟩⟩⟩)
  · intro h2
    replace h2 := of_decide_eq_false h2
    first
    | (exfalso; omega)
    | (refine ⟨(And.intro rfl (And.intro rfl rfl)), ?_, ?_⟩
       · intro h3
         replace h3 := of_decide_eq_true h3
         first
         | (exfalso; omega)
         | (exact ⟨(by exfalso; omega), trivial⟩)
       · intro h4
         replace h4 := of_decide_eq_false h4
         first
         | (exfalso; omega)
         | (refine ⟨?_, ?_⟩
            · intro h5
              replace h5 := of_decide_eq_true h5
              first
              | (exfalso; omega)
              | (exact ⟨(by exfalso; omega), trivial⟩)
            · intro h6
              replace h6 := of_decide_eq_false h6
              first
              | (exfalso; omega)
              | (refine ⟨rfl, ?_, ?_⟩
                 · intro h7
                   cases h7
                 · intro h8
                   refine ⟨rfl, (And.intro (show (0 : Int) ≤ (0 : Int) from (by decide)) (show (0 : Int) < ((Mw.mk (wT (0 : Int) (0 : Int) (0 : Int) (0 : Int) (0 : Int))).ws.length : Int) from (show _ < ((34 : Nat) : Int) by decide))), ?_, ?_, ?_, ?_⟩
                   · exact ⟨(by decide), (by decide)⟩
                   · exact ⟨(by decide), (by decide)⟩
                   · intro h9
                     replace h9 := of_decide_eq_true h9
                     first
                     | (exfalso; omega)
                     | (refine ⟨(And.intro rfl (And.intro rfl rfl)), ?_⟩
                        exact ⟨⟨0, 0, [], [], [], 0, 0, 0, 0, (0 : Int), (1 : Int), (0 : Int), wT (0 : Int) (0 : Int) (0 : Int) (0 : Int) (0 : Int), []⟩, ⟨rfl, t2 ⟨rfl, rfl, t107 ⟨(by kernel_rfl), rfl, (by kernel_rfl), rfl, rfl, rfl, rfl, rfl, rfl, (by rw [List.take_of_length_le (by omega)]), rfl, rfl, rfl, rfl, rfl, rfl, ⟨⟨(mkBW (mkBase (plan_map l hl8) (cl_le cl) (by omega) (by first | omega | (simp only [List.length_nil]; omega)) (by first | omega | (simp only [List.length_nil]; omega)) (by first | omega | (simp only [List.length_nil]; omega)) (fun x hx => by cases hx) (fun x hx => by cases hx)) (show ([] : List Int).Nodup from List.nodup_nil)), (show 1 ≤ 0 by omega)⟩, (show (0) ≤ (60 : Nat) by omega)⟩, (show (1000000 : Nat) - (0) < (3000000 : Nat) - k by omega), trivial⟩⟩⟩⟩)
                   · intro h10
                     replace h10 := of_decide_eq_false h10
                     first
                     | (exfalso; omega)
                     | (refine ⟨(And.intro rfl (And.intro rfl rfl)), ?_⟩
                        exact ⟨⟨0, 1, [], [], [], 0, 0, IntKind.i64.wrap ((1 : Int) + IntKind.i64.wrap ((IntKind.u64.wrap cl).tmod (2 : Int))), 0, (0 : Int), (1 : Int), (0 : Int), [], []⟩, ⟨rfl, t2 ⟨rfl, rfl, t3 ⟨rfl, rfl, (by kernel_rfl), rfl, (by kernel_rfl), rfl, rfl, rfl, rfl, t10 ⟨rfl, (congrArg (AVal.int IntKind.i64) (rfl)), t11 ⟨rfl, rfl, rfl, (by rw [List.take_of_length_le (by omega)]), rfl, rfl, rfl, rfl, rfl, rfl, ⟨⟨(mkBW (mkBase (plan_map l hl8) (cl_le cl) (by omega) (by first | omega | (simp only [List.length_nil]; omega)) (by first | omega | (simp only [List.length_nil]; omega)) (by first | omega | (simp only [List.length_nil]; omega)) (fun x hx => by cases hx) (fun x hx => by cases hx)) (show ([] : List Int).Nodup from List.nodup_nil)), (show 1 ≤ 1 by omega)⟩, (show (0) ≤ (60 : Nat) by omega)⟩, (show (1000000 : Nat) - (0) < (3000000 : Nat) - k by omega), trivial⟩⟩⟩⟩⟩⟩))))
theorem wa_e (l p : List Op) (cl w : Int) : Go.Sy.Tree.holds (entryS F (lookC (lW p)) 3000 Try.f5 b5 (fW l p cl w) selW [.i .i64 cl, .tl (T := T) 2 l, .i .i64 w]) = ( (decide ((↑l.length : Int) > 8) = true → true = true ∧
 True) ∧ (decide ((↑l.length : Int) > 8) = false → ∃ (s : Nat), cl = cl ∧ l = l ∧ w = w ∧ Z0 ([(0 : Int), (0 : Int), (0 : Int), (0 : Int), (0 : Int), (0 : Int), (0 : Int), (0 : Int), (0 : Int), (0 : Int), (0 : Int), (0 :
 Int), (0 : Int), (0 : Int), (0 : Int), (0 : Int), (0 : Int), (0 : Int), (0 : Int), (0 : Int), (0 : Int), (0 : Int), (0 : Int), (0 : Int), (0 : Int), (0 : Int), (0 : Int), (0 : Int), (0 : Int), (0 : Int), (0 : Int), (0 :
 Int), (0 : Int), (0 : Int)] = w0 ∧ Z1 ([] = List.map opT (List.take s l) ∧ (0 : Int) = (↑s : Int) ∧ (s ≤ l.length ∧ l.length ≤ 8) ∧ True)))) := by kernel_rfl
theorem wa_e_ok (l p : List Op) (cl w : Int) : Paid (entryS F (lookC (lW p)) 3000 Try.f5 b5 (fW l p cl w) selW [.i .i64 cl, .tl (T := T) 2 l, .i .i64 w]) := by
  refine ⟨?_⟩
  rw [wa_e]
  refine ⟨?_, ?_⟩
  · intro h1
    replace h1 := of_decide_eq_true h1
    first
    | (exfalso; omega)
    | (exact ⟨rfl, trivial⟩)
  · intro h2
    replace h2 := of_decide_eq_false h2
    first
    | (exfalso; omega)
    | (exact ⟨0, ⟨rfl, rfl, rfl, t0 ⟨rfl, t1 ⟨rfl, rfl, ⟨(by omega), (by omega)⟩, trivial⟩⟩⟩⟩)
end Go.Proofs.Ytmjjljngaefpaaa

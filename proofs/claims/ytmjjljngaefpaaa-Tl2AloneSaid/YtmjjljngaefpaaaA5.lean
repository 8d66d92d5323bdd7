/- Tl2Alone: its loops, one step each. -/
import Derived.Test.YtmjjljngaefpaaaAf
namespace Go.Proofs.Ytmjjljngaefpaaa
open Go.RowKit Go.Am Go.Sy
set_option linter.unusedVariables false
set_option linter.unusedSimpArgs false
variable (l p : List Op) (cl : Int) (n i : Nat) (rd rs ws : List Wo) (xi : Nat) (a c bk value steps asked : Int) (W rows : List Int)
theorem al_p0 : Go.Sy.Tree.holds (cA l p cl 23 (put 0) ⟨n, i, rd, rs, ws, xi, a, c, bk, value, steps, asked, W, rows⟩) = ( (decide ((0 : Int) < (↑ws.length : Int)) = true → ((0 : Int) ≤ 0 ∧ (0 : Int) < (↑ws.length : Int))
 ∧ ((0 : Int) ≤ 0 ∧ (0 : Int) < (↑ws.length : Int)) ∧ ((0 : Int) ≤ 0 ∧ (0 : Int) < (↑ws.length : Int)) ∧ ((0 : Int) ≤ 0 ∧ (0 : Int) < (↑ws.length : Int)) ∧ Tz1 W ws steps a fun s => Q 1 ∧ putI (1 : Nat) s ∧ (999 : Nat) <
 1000 ∧ True) ∧ (decide ((0 : Int) < (↑ws.length : Int)) = false → Tz0 W ws steps a fun s => 0 = (↑s.n : Int) ∧ Qc 0 ∧ cmpI (0 : Nat) (0 : Nat) s ∧ (500 : Nat) < 1000 ∧ True)) := by kernel_rfl
theorem al_p0_ok (l p : List Op) (cl : Int) (s : US) (hI : putI 0 s) : Paid (cA l p cl 23 (put 0) s) := by
  obtain ⟨n, i, rd, rs, ws, xi, a, c, bk, value, steps, asked, W, rows⟩ := s
  obtain ⟨hF, hk⟩ := hI
  have hk : 0 ≤ ws.length := hk
  have h4 : ws.length ≤ 4 := fin_len hF
  refine ⟨?_⟩
  rw [al_p0]
  refine ⟨fun h => ?_, fun h => ?_⟩
  · replace h := of_decide_eq_true h
    refine ⟨⟨by decide, h⟩, ⟨by decide, h⟩, ⟨by decide, h⟩, ⟨by decide, h⟩, ?_⟩
    exact tz1 (s := ⟨n, i, rd, rs, ws, xi, a, c, bk, value, steps, asked, W, rows⟩) ⟨rfl, ⟨hF, (show 1 ≤ ws.length by omega)⟩, by decide, trivial⟩
  · replace h := of_decide_eq_false h
    exact tz0 (s := ⟨0, i, rd, rs, ws, xi, a, c, bk, value, steps, asked, W, rows⟩) ⟨rfl, rfl, ⟨hF, (show ws.length = 0 by omega), cnt_zero hF.2.2.1⟩, by decide, trivial⟩
theorem al_p1 : Go.Sy.Tree.holds (cA l p cl 23 (put 1) ⟨n, i, rd, rs, ws, xi, a, c, bk, value, steps, asked, W, rows⟩) = ( (decide ((1 : Int) < (↑ws.length : Int)) = true → ((0 : Int) ≤ 1 ∧ (1 : Int) < (↑ws.length : Int))
 ∧ ((0 : Int) ≤ 1 ∧ (1 : Int) < (↑ws.length : Int)) ∧ ((0 : Int) ≤ 1 ∧ (1 : Int) < (↑ws.length : Int)) ∧ ((0 : Int) ≤ 1 ∧ (1 : Int) < (↑ws.length : Int)) ∧ (((at3 ws 1).pl == (at3 ws 0).pl) = true → Stuck "sel: none") ∧
 (((at3 ws 1).pl == (at3 ws 0).pl) = false → Tz2 W ws steps a fun s => Q 2 ∧ putI (2 : Nat) s ∧ (998 : Nat) < 999 ∧ True)) ∧ (decide ((1 : Int) < (↑ws.length : Int)) = false → Tz1 W ws steps a fun s => 0 = (↑s.n : Int) ∧
 Qc 0 ∧ cmpI (1 : Nat) (0 : Nat) s ∧ (500 : Nat) < 999 ∧ True)) := by kernel_rfl
theorem al_p1_ok (l p : List Op) (cl : Int) (s : US) (hI : putI 1 s) : Paid (cA l p cl 23 (put 1) s) := by
  obtain ⟨n, i, rd, rs, ws, xi, a, c, bk, value, steps, asked, W, rows⟩ := s
  obtain ⟨hF, hk⟩ := hI
  have hk : 1 ≤ ws.length := hk
  have h4 : ws.length ≤ 4 := fin_len hF
  refine ⟨?_⟩
  rw [al_p1]
  refine ⟨fun h => ?_, fun h => ?_⟩
  · replace h := of_decide_eq_true h
    refine ⟨⟨by decide, h⟩, ⟨by decide, h⟩, ⟨by decide, h⟩, ⟨by decide, h⟩, ?_⟩
    refine ⟨fun e => (dup_no hF (j := 0) (k := 1) (by decide) (show 1 < ws.length by omega) e).elim, fun _ => ?_⟩
    exact tz2 (s := ⟨n, i, rd, rs, ws, xi, a, c, bk, value, steps, asked, W, rows⟩) ⟨rfl, ⟨hF, (show 2 ≤ ws.length by omega)⟩, by decide, trivial⟩
  · replace h := of_decide_eq_false h
    exact tz1 (s := ⟨0, i, rd, rs, ws, xi, a, c, bk, value, steps, asked, W, rows⟩) ⟨rfl, rfl, ⟨hF, (show ws.length = 1 by omega), cnt_zero hF.2.2.1⟩, by decide, trivial⟩
theorem al_p2 : Go.Sy.Tree.holds (cA l p cl 23 (put 2) ⟨n, i, rd, rs, ws, xi, a, c, bk, value, steps, asked, W, rows⟩) = ( (decide ((2 : Int) < (↑ws.length : Int)) = true → ((0 : Int) ≤ 2 ∧ (2 : Int) < (↑ws.length : Int))
 ∧ ((0 : Int) ≤ 2 ∧ (2 : Int) < (↑ws.length : Int)) ∧ ((0 : Int) ≤ 2 ∧ (2 : Int) < (↑ws.length : Int)) ∧ ((0 : Int) ≤ 2 ∧ (2 : Int) < (↑ws.length : Int)) ∧ (((at3 ws 2).pl == (at3 ws 0).pl) = true → Stuck "sel: none") ∧
 (((at3 ws 2).pl == (at3 ws 0).pl) = false → (((at3 ws 2).pl == (at3 ws 1).pl) = true → Stuck "sel: none") ∧ (((at3 ws 2).pl == (at3 ws 1).pl) = false → Tz3 W ws steps a fun s => Q 3 ∧ putI (3 : Nat) s ∧ (997 : Nat) < 998
 ∧ True))) ∧ (decide ((2 : Int) < (↑ws.length : Int)) = false → Tz2 W ws steps a fun s => 0 = (↑s.n : Int) ∧ Qc 0 ∧ cmpI (2 : Nat) (0 : Nat) s ∧ (500 : Nat) < 998 ∧ True)) := by kernel_rfl
theorem al_p2_ok (l p : List Op) (cl : Int) (s : US) (hI : putI 2 s) : Paid (cA l p cl 23 (put 2) s) := by
  obtain ⟨n, i, rd, rs, ws, xi, a, c, bk, value, steps, asked, W, rows⟩ := s
  obtain ⟨hF, hk⟩ := hI
  have hk : 2 ≤ ws.length := hk
  have h4 : ws.length ≤ 4 := fin_len hF
  refine ⟨?_⟩
  rw [al_p2]
  refine ⟨fun h => ?_, fun h => ?_⟩
  · replace h := of_decide_eq_true h
    refine ⟨⟨by decide, h⟩, ⟨by decide, h⟩, ⟨by decide, h⟩, ⟨by decide, h⟩, ?_⟩
    refine ⟨fun e => (dup_no hF (j := 0) (k := 2) (by decide) (show 2 < ws.length by omega) e).elim, fun _ => ?_⟩
    refine ⟨fun e => (dup_no hF (j := 1) (k := 2) (by decide) (show 2 < ws.length by omega) e).elim, fun _ => ?_⟩
    exact tz3 (s := ⟨n, i, rd, rs, ws, xi, a, c, bk, value, steps, asked, W, rows⟩) ⟨rfl, ⟨hF, (show 3 ≤ ws.length by omega)⟩, by decide, trivial⟩
  · replace h := of_decide_eq_false h
    exact tz2 (s := ⟨0, i, rd, rs, ws, xi, a, c, bk, value, steps, asked, W, rows⟩) ⟨rfl, rfl, ⟨hF, (show ws.length = 2 by omega), cnt_zero hF.2.2.1⟩, by decide, trivial⟩
theorem al_p3 : Go.Sy.Tree.holds (cA l p cl 23 (put 3) ⟨n, i, rd, rs, ws, xi, a, c, bk, value, steps, asked, W, rows⟩) = ( (decide ((3 : Int) < (↑ws.length : Int)) = true → ((0 : Int) ≤ 3 ∧ (3 : Int) < (↑ws.length : Int))
 ∧ ((0 : Int) ≤ 3 ∧ (3 : Int) < (↑ws.length : Int)) ∧ ((0 : Int) ≤ 3 ∧ (3 : Int) < (↑ws.length : Int)) ∧ ((0 : Int) ≤ 3 ∧ (3 : Int) < (↑ws.length : Int)) ∧ (((at3 ws 3).pl == (at3 ws 0).pl) = true → Stuck "sel: none") ∧
 (((at3 ws 3).pl == (at3 ws 0).pl) = false → (((at3 ws 3).pl == (at3 ws 1).pl) = true → Stuck "sel: none") ∧ (((at3 ws 3).pl == (at3 ws 1).pl) = false → (((at3 ws 3).pl == (at3 ws 2).pl) = true → Stuck "sel: none") ∧
 (((at3 ws 3).pl == (at3 ws 2).pl) = false → Tz4 W ws steps a fun s => Q 4 ∧ putI (4 : Nat) s ∧ (996 : Nat) < 997 ∧ True)))) ∧ (decide ((3 : Int) < (↑ws.length : Int)) = false → Tz3 W ws steps a fun s => 0 = (↑s.n : Int)
 ∧ Qc 0 ∧ cmpI (3 : Nat) (0 : Nat) s ∧ (500 : Nat) < 997 ∧ True)) := by kernel_rfl
theorem al_p3_ok (l p : List Op) (cl : Int) (s : US) (hI : putI 3 s) : Paid (cA l p cl 23 (put 3) s) := by
  obtain ⟨n, i, rd, rs, ws, xi, a, c, bk, value, steps, asked, W, rows⟩ := s
  obtain ⟨hF, hk⟩ := hI
  have hk : 3 ≤ ws.length := hk
  have h4 : ws.length ≤ 4 := fin_len hF
  refine ⟨?_⟩
  rw [al_p3]
  refine ⟨fun h => ?_, fun h => ?_⟩
  · replace h := of_decide_eq_true h
    refine ⟨⟨by decide, h⟩, ⟨by decide, h⟩, ⟨by decide, h⟩, ⟨by decide, h⟩, ?_⟩
    refine ⟨fun e => (dup_no hF (j := 0) (k := 3) (by decide) (show 3 < ws.length by omega) e).elim, fun _ => ?_⟩
    refine ⟨fun e => (dup_no hF (j := 1) (k := 3) (by decide) (show 3 < ws.length by omega) e).elim, fun _ => ?_⟩
    refine ⟨fun e => (dup_no hF (j := 2) (k := 3) (by decide) (show 3 < ws.length by omega) e).elim, fun _ => ?_⟩
    exact tz4 (s := ⟨n, i, rd, rs, ws, xi, a, c, bk, value, steps, asked, W, rows⟩) ⟨rfl, ⟨hF, (show 4 ≤ ws.length by omega)⟩, by decide, trivial⟩
  · replace h := of_decide_eq_false h
    exact tz3 (s := ⟨0, i, rd, rs, ws, xi, a, c, bk, value, steps, asked, W, rows⟩) ⟨rfl, rfl, ⟨hF, (show ws.length = 3 by omega), cnt_zero hF.2.2.1⟩, by decide, trivial⟩
theorem al_p4 : Go.Sy.Tree.holds (cA l p cl 23 (put 4) ⟨n, i, rd, rs, ws, xi, a, c, bk, value, steps, asked, W, rows⟩) = ( (decide ((4 : Int) < (↑ws.length : Int)) = true → ((0 : Int) ≤ 4 ∧ (4 : Int) < (↑ws.length : Int))
 ∧ ((0 : Int) ≤ 4 ∧ (4 : Int) < (↑ws.length : Int)) ∧ ((0 : Int) ≤ 4 ∧ (4 : Int) < (↑ws.length : Int)) ∧ ((0 : Int) ≤ 4 ∧ (4 : Int) < (↑ws.length : Int)) ∧ (((at3 ws 4).pl == (at3 ws 0).pl) = true → Stuck "sel: none") ∧
 (((at3 ws 4).pl == (at3 ws 0).pl) = false → (((at3 ws 4).pl == (at3 ws 1).pl) = true → Stuck "sel: none") ∧ (((at3 ws 4).pl == (at3 ws 1).pl) = false → (((at3 ws 4).pl == (at3 ws 2).pl) = true → Stuck "sel: none") ∧
 (((at3 ws 4).pl == (at3 ws 2).pl) = false → (((at3 ws 4).pl == (at3 ws 3).pl) = true → Stuck "sel: none") ∧ (((at3 ws 4).pl == (at3 ws 3).pl) = false → Stuck "sel: none"))))) ∧ (decide ((4 : Int) < (↑ws.length : Int)) =
 false → Tz4 W ws steps a fun s => 0 = (↑s.n : Int) ∧ Qc 0 ∧ cmpI (4 : Nat) (0 : Nat) s ∧ (500 : Nat) < 996 ∧ True)) := by kernel_rfl
theorem al_p4_ok (l p : List Op) (cl : Int) (s : US) (hI : putI 4 s) : Paid (cA l p cl 23 (put 4) s) := by
  obtain ⟨n, i, rd, rs, ws, xi, a, c, bk, value, steps, asked, W, rows⟩ := s
  obtain ⟨hF, hk⟩ := hI
  have hk : 4 ≤ ws.length := hk
  have h4 : ws.length ≤ 4 := fin_len hF
  refine ⟨?_⟩
  rw [al_p4]
  refine ⟨fun h => ?_, fun h => ?_⟩
  · replace h := of_decide_eq_true h
    exfalso; omega
  · replace h := of_decide_eq_false h
    exact tz4 (s := ⟨0, i, rd, rs, ws, xi, a, c, bk, value, steps, asked, W, rows⟩) ⟨rfl, rfl, ⟨hF, (show ws.length = 4 by omega), cnt_zero hF.2.2.1⟩, by decide, trivial⟩
theorem al_c00 : Go.Sy.Tree.holds (cA l p cl 28 (cmp 0 0) ⟨n, i, rd, rs, ws, xi, a, c, bk, value, steps, asked, W, rows⟩) = ( dataD.pre (mp1, (0 : Int), ()) ∧ dataD.pre (mp1, (0 : Int), ()) ∧ badD.pre (Mw.mk W, (26 :
 Int), ()) ∧ Bk 26 W ∧ Bk 26 W ∧ ((at0 W (26 : Int) != 0) = true → false = true ∧ True) ∧ ((at0 W (26 : Int) != 0) = false → Tz0 W ws steps a fun s => (↑n : Int) = (↑s.n : Int) ∧ Q 1 ∧ cmpI (0 : Nat) (1 : Nat) s ∧ (499 :
 Nat) < 500 ∧ True)) := by kernel_rfl
theorem al_c00_ok (l p : List Op) (cl : Int) (s : US) (hI : cmpI 0 0 s) : Paid (cA l p cl 28 (cmp 0 0) s) := by
  obtain ⟨n, i, rd, rs, ws, xi, a, c, bk, value, steps, asked, W, rows⟩ := s
  have hW : W.length = 34 := hI.1.1
  have hl : ws.length = 0 := hI.2.1
  have hc : n = cntT ws 0 := hI.2.2
  have h4 : ws.length ≤ 4 := fin_len hI.1
  have hn4 : n ≤ 4 := by rw [hc]; exact Nat.le_trans (cnt_le ws 0) h4
  refine ⟨?_⟩
  rw [al_c00]
  refine ⟨(And.intro rfl (And.intro (by decide) (by decide))), ?_⟩
  have g := cmp_miss hI (by decide) (q := 26) (by decide) fun j hj => absurd hj (Nat.not_lt_zero j)
  exact ⟨(And.intro rfl (And.intro (by decide) (by decide))), (And.intro (show (0 : Int) ≤ 26 by decide) (show (26 : Int) < (W.length : Int) by rw [hW]; decide)), (And.intro (show (0 : Int) ≤ 26 by decide) (show (26 : Int) < (W.length : Int) by rw [hW]; decide)), (And.intro (show (0 : Int) ≤ 26 by decide) (show (26 : Int) < (W.length : Int) by rw [hW]; decide)), fun h => absurd g.1 (bne_iff_ne.1 h), fun _ => tz0 (s := ⟨n, i, rd, rs, ws, xi, a, c, bk, value, steps, asked, W, rows⟩) ⟨rfl, rfl, ⟨hI.1, hl, g.2⟩, by decide, trivial⟩⟩
theorem al_c01 : Go.Sy.Tree.holds (cA l p cl 28 (cmp 0 1) ⟨n, i, rd, rs, ws, xi, a, c, bk, value, steps, asked, W, rows⟩) = ( dataD.pre (mp1, (1 : Int), ()) ∧ dataD.pre (mp1, (1 : Int), ()) ∧ badD.pre (Mw.mk W, (28 :
 Int), ()) ∧ Bk 28 W ∧ Bk 28 W ∧ ((at0 W (28 : Int) != 0) = true → false = true ∧ True) ∧ ((at0 W (28 : Int) != 0) = false → Tz0 W ws steps a fun s => (↑n : Int) = (↑s.n : Int) ∧ Q 2 ∧ cmpI (0 : Nat) (2 : Nat) s ∧ (498 :
 Nat) < 499 ∧ True)) := by kernel_rfl
theorem al_c01_ok (l p : List Op) (cl : Int) (s : US) (hI : cmpI 0 1 s) : Paid (cA l p cl 28 (cmp 0 1) s) := by
  obtain ⟨n, i, rd, rs, ws, xi, a, c, bk, value, steps, asked, W, rows⟩ := s
  have hW : W.length = 34 := hI.1.1
  have hl : ws.length = 0 := hI.2.1
  have hc : n = cntT ws 1 := hI.2.2
  have h4 : ws.length ≤ 4 := fin_len hI.1
  have hn4 : n ≤ 4 := by rw [hc]; exact Nat.le_trans (cnt_le ws 1) h4
  refine ⟨?_⟩
  rw [al_c01]
  refine ⟨(And.intro rfl (And.intro (by decide) (by decide))), ?_⟩
  have g := cmp_miss hI (by decide) (q := 28) (by decide) fun j hj => absurd hj (Nat.not_lt_zero j)
  exact ⟨(And.intro rfl (And.intro (by decide) (by decide))), (And.intro (show (0 : Int) ≤ 28 by decide) (show (28 : Int) < (W.length : Int) by rw [hW]; decide)), (And.intro (show (0 : Int) ≤ 28 by decide) (show (28 : Int) < (W.length : Int) by rw [hW]; decide)), (And.intro (show (0 : Int) ≤ 28 by decide) (show (28 : Int) < (W.length : Int) by rw [hW]; decide)), fun h => absurd g.1 (bne_iff_ne.1 h), fun _ => tz0 (s := ⟨n, i, rd, rs, ws, xi, a, c, bk, value, steps, asked, W, rows⟩) ⟨rfl, rfl, ⟨hI.1, hl, g.2⟩, by decide, trivial⟩⟩
theorem al_c02 : Go.Sy.Tree.holds (cA l p cl 28 (cmp 0 2) ⟨n, i, rd, rs, ws, xi, a, c, bk, value, steps, asked, W, rows⟩) = ( dataD.pre (mp1, (2 : Int), ()) ∧ dataD.pre (mp1, (2 : Int), ()) ∧ badD.pre (Mw.mk W, (30 :
 Int), ()) ∧ Bk 30 W ∧ Bk 30 W ∧ ((at0 W (30 : Int) != 0) = true → false = true ∧ True) ∧ ((at0 W (30 : Int) != 0) = false → Tz0 W ws steps a fun s => (↑n : Int) = (↑s.n : Int) ∧ Q 3 ∧ cmpI (0 : Nat) (3 : Nat) s ∧ (497 :
 Nat) < 498 ∧ True)) := by kernel_rfl
theorem al_c02_ok (l p : List Op) (cl : Int) (s : US) (hI : cmpI 0 2 s) : Paid (cA l p cl 28 (cmp 0 2) s) := by
  obtain ⟨n, i, rd, rs, ws, xi, a, c, bk, value, steps, asked, W, rows⟩ := s
  have hW : W.length = 34 := hI.1.1
  have hl : ws.length = 0 := hI.2.1
  have hc : n = cntT ws 2 := hI.2.2
  have h4 : ws.length ≤ 4 := fin_len hI.1
  have hn4 : n ≤ 4 := by rw [hc]; exact Nat.le_trans (cnt_le ws 2) h4
  refine ⟨?_⟩
  rw [al_c02]
  refine ⟨(And.intro rfl (And.intro (by decide) (by decide))), ?_⟩
  have g := cmp_miss hI (by decide) (q := 30) (by decide) fun j hj => absurd hj (Nat.not_lt_zero j)
  exact ⟨(And.intro rfl (And.intro (by decide) (by decide))), (And.intro (show (0 : Int) ≤ 30 by decide) (show (30 : Int) < (W.length : Int) by rw [hW]; decide)), (And.intro (show (0 : Int) ≤ 30 by decide) (show (30 : Int) < (W.length : Int) by rw [hW]; decide)), (And.intro (show (0 : Int) ≤ 30 by decide) (show (30 : Int) < (W.length : Int) by rw [hW]; decide)), fun h => absurd g.1 (bne_iff_ne.1 h), fun _ => tz0 (s := ⟨n, i, rd, rs, ws, xi, a, c, bk, value, steps, asked, W, rows⟩) ⟨rfl, rfl, ⟨hI.1, hl, g.2⟩, by decide, trivial⟩⟩
theorem al_c03 : Go.Sy.Tree.holds (cA l p cl 28 (cmp 0 3) ⟨n, i, rd, rs, ws, xi, a, c, bk, value, steps, asked, W, rows⟩) = ( dataD.pre (mp1, (3 : Int), ()) ∧ dataD.pre (mp1, (3 : Int), ()) ∧ badD.pre (Mw.mk W, (32 :
 Int), ()) ∧ Bk 32 W ∧ Bk 32 W ∧ ((at0 W (32 : Int) != 0) = true → false = true ∧ True) ∧ ((at0 W (32 : Int) != 0) = false → Tz0 W ws steps a fun s => (↑n : Int) = (↑s.n : Int) ∧ Q 4 ∧ cmpI (0 : Nat) (4 : Nat) s ∧ (496 :
 Nat) < 497 ∧ True)) := by kernel_rfl
theorem al_c03_ok (l p : List Op) (cl : Int) (s : US) (hI : cmpI 0 3 s) : Paid (cA l p cl 28 (cmp 0 3) s) := by
  obtain ⟨n, i, rd, rs, ws, xi, a, c, bk, value, steps, asked, W, rows⟩ := s
  have hW : W.length = 34 := hI.1.1
  have hl : ws.length = 0 := hI.2.1
  have hc : n = cntT ws 3 := hI.2.2
  have h4 : ws.length ≤ 4 := fin_len hI.1
  have hn4 : n ≤ 4 := by rw [hc]; exact Nat.le_trans (cnt_le ws 3) h4
  refine ⟨?_⟩
  rw [al_c03]
  refine ⟨(And.intro rfl (And.intro (by decide) (by decide))), ?_⟩
  have g := cmp_miss hI (by decide) (q := 32) (by decide) fun j hj => absurd hj (Nat.not_lt_zero j)
  exact ⟨(And.intro rfl (And.intro (by decide) (by decide))), (And.intro (show (0 : Int) ≤ 32 by decide) (show (32 : Int) < (W.length : Int) by rw [hW]; decide)), (And.intro (show (0 : Int) ≤ 32 by decide) (show (32 : Int) < (W.length : Int) by rw [hW]; decide)), (And.intro (show (0 : Int) ≤ 32 by decide) (show (32 : Int) < (W.length : Int) by rw [hW]; decide)), fun h => absurd g.1 (bne_iff_ne.1 h), fun _ => tz0 (s := ⟨n, i, rd, rs, ws, xi, a, c, bk, value, steps, asked, W, rows⟩) ⟨rfl, rfl, ⟨hI.1, hl, g.2⟩, by decide, trivial⟩⟩
theorem al_c04 : Go.Sy.Tree.holds (cA l p cl 28 (cmp 0 4) ⟨n, i, rd, rs, ws, xi, a, c, bk, value, steps, asked, W, rows⟩) = ( (decide ((↑n : Int) > 0) = true → clockD.pre (mp1, ()) ∧ badD.pre (Mw.mk W, (0 : Int), ()) ∧ Bk
 0 W ∧ Bk 0 W ∧ (((↑ws.length : Int) == (↑n : Int)) = true → ((at0 W (0 : Int) == a) = true → threadD.pre (mp1, (1 : Int), (0 : Int), ()) ∧ badD.pre (Mw.mk W, (13 : Int), ()) ∧ Bk 13 W ∧ Bk 13 W ∧ ((at0 W (13 : Int) == 0)
 = true → (((↑n : Int) == 0) = true → true = true ∧ True) ∧ (((↑n : Int) == 0) = false → ((a == a) = true → (a == 1) = true ∧ True) ∧ ((a == a) = false → false = true ∧ True))) ∧ ((at0 W (13 : Int) == 0) = false → false =
 true ∧ True)) ∧ ((at0 W (0 : Int) == a) = false → false = true ∧ True)) ∧ (((↑ws.length : Int) == (↑n : Int)) = false → false = true ∧ True)) ∧ (decide ((↑n : Int) > 0) = false → clockD.pre (mp1, ()) ∧ badD.pre (Mw.mk W,
 (0 : Int), ()) ∧ Bk 0 W ∧ Bk 0 W ∧ (((↑ws.length : Int) == (↑n : Int)) = true → ((at0 W (0 : Int) == 0) = true → threadD.pre (mp1, (1 : Int), (0 : Int), ()) ∧ badD.pre (Mw.mk W, (13 : Int), ()) ∧ Bk 13 W ∧ Bk 13 W ∧
 ((at0 W (13 : Int) == 0) = true → (((↑n : Int) == 0) = true → true = true ∧ True) ∧ (((↑n : Int) == 0) = false → ((a == a) = true → false = true ∧ True) ∧ ((a == a) = false → false = true ∧ True))) ∧ ((at0 W (13 : Int)
 == 0) = false → false = true ∧ True)) ∧ ((at0 W (0 : Int) == 0) = false → false = true ∧ True)) ∧ (((↑ws.length : Int) == (↑n : Int)) = false → false = true ∧ True))) := by kernel_rfl
theorem al_c04_ok (l p : List Op) (cl : Int) (s : US) (hI : cmpI 0 4 s) : Paid (cA l p cl 28 (cmp 0 4) s) := by
  obtain ⟨n, i, rd, rs, ws, xi, a, c, bk, value, steps, asked, W, rows⟩ := s
  have hW : W.length = 34 := hI.1.1
  have hl : ws.length = 0 := hI.2.1
  have hc : n = cntT ws 4 := hI.2.2
  have h4 : ws.length ≤ 4 := fin_len hI.1
  have hn4 : n ≤ 4 := by rw [hc]; exact Nat.le_trans (cnt_le ws 4) h4
  have hn : n = 0 := by rw [hc, cnt_four hI.1.2.2.1]; exact hl
  have hck : at0 W 0 = a := hI.1.2.2.2.2.1.2.1.2.trans hI.1.2.2.2.2.1.2.2.symm
  have hph : at0 W 13 = 0 := hI.1.2.2.2.2.2
  have hm : a = 0 := hI.1.2.2.2.2.1.2.2.trans (made_nil hl)
  refine ⟨?_⟩
  rw [al_c04]
  subst hn
  exact ⟨fun h => absurd h (by decide), fun _ => ⟨rfl, (And.intro (show (0 : Int) ≤ 0 by decide) (show (0 : Int) < (W.length : Int) by rw [hW]; decide)), (And.intro (show (0 : Int) ≤ 0 by decide) (show (0 : Int) < (W.length : Int) by rw [hW]; decide)), (And.intro (show (0 : Int) ≤ 0 by decide) (show (0 : Int) < (W.length : Int) by rw [hW]; decide)), ⟨fun _ => ⟨fun _ => ⟨(And.intro rfl (And.intro rfl rfl)), (And.intro (show (0 : Int) ≤ 13 by decide) (show (13 : Int) < (W.length : Int) by rw [hW]; decide)), (And.intro (show (0 : Int) ≤ 13 by decide) (show (13 : Int) < (W.length : Int) by rw [hW]; decide)), (And.intro (show (0 : Int) ≤ 13 by decide) (show (13 : Int) < (W.length : Int) by rw [hW]; decide)), ⟨fun _ => ⟨fun _ => ⟨rfl, trivial⟩, fun h => absurd h (by decide)⟩, fun h => absurd hph (ne_of_beq_false h)⟩⟩, fun h => absurd (hck.trans hm) (ne_of_beq_false h)⟩, fun h => absurd (congrArg (fun x : Nat => (x : Int)) hl) (ne_of_beq_false h)⟩⟩⟩
theorem al_c10 : Go.Sy.Tree.holds (cA l p cl 28 (cmp 1 0) ⟨n, i, rd, rs, ws, xi, a, c, bk, value, steps, asked, W, rows⟩) = ( dataD.pre (mp1, (0 : Int), ()) ∧ (((26 : Int) == (at3 ws 0).pl) = true → dataD.pre (mp1, (0 :
 Int), ()) ∧ badD.pre (Mw.mk W, (26 : Int), ()) ∧ Bk 26 W ∧ Bk 26 W ∧ ((at0 W (26 : Int) != (at3 ws 0).vl) = true → false = true ∧ True) ∧ ((at0 W (26 : Int) != (at3 ws 0).vl) = false → Tz1 W ws steps a fun s =>
 IntKind.i64.wrap ((↑n : Int) + 1) = (↑s.n : Int) ∧ Q 1 ∧ cmpI (1 : Nat) (1 : Nat) s ∧ (499 : Nat) < 500 ∧ True)) ∧ (((26 : Int) == (at3 ws 0).pl) = false → dataD.pre (mp1, (0 : Int), ()) ∧ badD.pre (Mw.mk W, (26 : Int),
 ()) ∧ Bk 26 W ∧ Bk 26 W ∧ ((at0 W (26 : Int) != 0) = true → false = true ∧ True) ∧ ((at0 W (26 : Int) != 0) = false → Tz1 W ws steps a fun s => (↑n : Int) = (↑s.n : Int) ∧ Q 1 ∧ cmpI (1 : Nat) (1 : Nat) s ∧ (499 : Nat) <
 500 ∧ True))) := by kernel_rfl
theorem al_c10_ok (l p : List Op) (cl : Int) (s : US) (hI : cmpI 1 0 s) : Paid (cA l p cl 28 (cmp 1 0) s) := by
  obtain ⟨n, i, rd, rs, ws, xi, a, c, bk, value, steps, asked, W, rows⟩ := s
  have hW : W.length = 34 := hI.1.1
  have hl : ws.length = 1 := hI.2.1
  have hc : n = cntT ws 0 := hI.2.2
  have h4 : ws.length ≤ 4 := fin_len hI.1
  have hn4 : n ≤ 4 := by rw [hc]; exact Nat.le_trans (cnt_le ws 0) h4
  refine ⟨?_⟩
  rw [al_c10]
  refine ⟨(And.intro rfl (And.intro (by decide) (by decide))), ?_⟩
  refine ⟨fun e0 => ?_, fun e0 => ?_⟩
  · have g := cmp_hit hI (by decide) (j := 0) (by decide) (q := 26) (by decide) e0
    exact ⟨(And.intro rfl (And.intro (by decide) (by decide))), (And.intro (show (0 : Int) ≤ 26 by decide) (show (26 : Int) < (W.length : Int) by rw [hW]; decide)), (And.intro (show (0 : Int) ≤ 26 by decide) (show (26 : Int) < (W.length : Int) by rw [hW]; decide)), (And.intro (show (0 : Int) ≤ 26 by decide) (show (26 : Int) < (W.length : Int) by rw [hW]; decide)), fun h => absurd g.1 (bne_iff_ne.1 h), fun _ => tz1 (s := ⟨n + 1, i, rd, rs, ws, xi, a, c, bk, value, steps, asked, W, rows⟩) ⟨(wN (by omega)), rfl, ⟨hI.1, hl, g.2⟩, by decide, trivial⟩⟩
  · skip
    have g := cmp_miss hI (by decide) (q := 26) (by decide) fun j hj => (by rcases (show j = 0 by omega) with rfl <;> first | exact e0)
    exact ⟨(And.intro rfl (And.intro (by decide) (by decide))), (And.intro (show (0 : Int) ≤ 26 by decide) (show (26 : Int) < (W.length : Int) by rw [hW]; decide)), (And.intro (show (0 : Int) ≤ 26 by decide) (show (26 : Int) < (W.length : Int) by rw [hW]; decide)), (And.intro (show (0 : Int) ≤ 26 by decide) (show (26 : Int) < (W.length : Int) by rw [hW]; decide)), fun h => absurd g.1 (bne_iff_ne.1 h), fun _ => tz1 (s := ⟨n, i, rd, rs, ws, xi, a, c, bk, value, steps, asked, W, rows⟩) ⟨rfl, rfl, ⟨hI.1, hl, g.2⟩, by decide, trivial⟩⟩
theorem al_c11 : Go.Sy.Tree.holds (cA l p cl 28 (cmp 1 1) ⟨n, i, rd, rs, ws, xi, a, c, bk, value, steps, asked, W, rows⟩) = ( dataD.pre (mp1, (1 : Int), ()) ∧ (((28 : Int) == (at3 ws 0).pl) = true → dataD.pre (mp1, (1 :
 Int), ()) ∧ badD.pre (Mw.mk W, (28 : Int), ()) ∧ Bk 28 W ∧ Bk 28 W ∧ ((at0 W (28 : Int) != (at3 ws 0).vl) = true → false = true ∧ True) ∧ ((at0 W (28 : Int) != (at3 ws 0).vl) = false → Tz1 W ws steps a fun s =>
 IntKind.i64.wrap ((↑n : Int) + 1) = (↑s.n : Int) ∧ Q 2 ∧ cmpI (1 : Nat) (2 : Nat) s ∧ (498 : Nat) < 499 ∧ True)) ∧ (((28 : Int) == (at3 ws 0).pl) = false → dataD.pre (mp1, (1 : Int), ()) ∧ badD.pre (Mw.mk W, (28 : Int),
 ()) ∧ Bk 28 W ∧ Bk 28 W ∧ ((at0 W (28 : Int) != 0) = true → false = true ∧ True) ∧ ((at0 W (28 : Int) != 0) = false → Tz1 W ws steps a fun s => (↑n : Int) = (↑s.n : Int) ∧ Q 2 ∧ cmpI (1 : Nat) (2 : Nat) s ∧ (498 : Nat) <
 499 ∧ True))) := by kernel_rfl
theorem al_c11_ok (l p : List Op) (cl : Int) (s : US) (hI : cmpI 1 1 s) : Paid (cA l p cl 28 (cmp 1 1) s) := by
  obtain ⟨n, i, rd, rs, ws, xi, a, c, bk, value, steps, asked, W, rows⟩ := s
  have hW : W.length = 34 := hI.1.1
  have hl : ws.length = 1 := hI.2.1
  have hc : n = cntT ws 1 := hI.2.2
  have h4 : ws.length ≤ 4 := fin_len hI.1
  have hn4 : n ≤ 4 := by rw [hc]; exact Nat.le_trans (cnt_le ws 1) h4
  refine ⟨?_⟩
  rw [al_c11]
  refine ⟨(And.intro rfl (And.intro (by decide) (by decide))), ?_⟩
  refine ⟨fun e0 => ?_, fun e0 => ?_⟩
  · have g := cmp_hit hI (by decide) (j := 0) (by decide) (q := 28) (by decide) e0
    exact ⟨(And.intro rfl (And.intro (by decide) (by decide))), (And.intro (show (0 : Int) ≤ 28 by decide) (show (28 : Int) < (W.length : Int) by rw [hW]; decide)), (And.intro (show (0 : Int) ≤ 28 by decide) (show (28 : Int) < (W.length : Int) by rw [hW]; decide)), (And.intro (show (0 : Int) ≤ 28 by decide) (show (28 : Int) < (W.length : Int) by rw [hW]; decide)), fun h => absurd g.1 (bne_iff_ne.1 h), fun _ => tz1 (s := ⟨n + 1, i, rd, rs, ws, xi, a, c, bk, value, steps, asked, W, rows⟩) ⟨(wN (by omega)), rfl, ⟨hI.1, hl, g.2⟩, by decide, trivial⟩⟩
  · skip
    have g := cmp_miss hI (by decide) (q := 28) (by decide) fun j hj => (by rcases (show j = 0 by omega) with rfl <;> first | exact e0)
    exact ⟨(And.intro rfl (And.intro (by decide) (by decide))), (And.intro (show (0 : Int) ≤ 28 by decide) (show (28 : Int) < (W.length : Int) by rw [hW]; decide)), (And.intro (show (0 : Int) ≤ 28 by decide) (show (28 : Int) < (W.length : Int) by rw [hW]; decide)), (And.intro (show (0 : Int) ≤ 28 by decide) (show (28 : Int) < (W.length : Int) by rw [hW]; decide)), fun h => absurd g.1 (bne_iff_ne.1 h), fun _ => tz1 (s := ⟨n, i, rd, rs, ws, xi, a, c, bk, value, steps, asked, W, rows⟩) ⟨rfl, rfl, ⟨hI.1, hl, g.2⟩, by decide, trivial⟩⟩
theorem al_c12 : Go.Sy.Tree.holds (cA l p cl 28 (cmp 1 2) ⟨n, i, rd, rs, ws, xi, a, c, bk, value, steps, asked, W, rows⟩) = ( dataD.pre (mp1, (2 : Int), ()) ∧ (((30 : Int) == (at3 ws 0).pl) = true → dataD.pre (mp1, (2 :
 Int), ()) ∧ badD.pre (Mw.mk W, (30 : Int), ()) ∧ Bk 30 W ∧ Bk 30 W ∧ ((at0 W (30 : Int) != (at3 ws 0).vl) = true → false = true ∧ True) ∧ ((at0 W (30 : Int) != (at3 ws 0).vl) = false → Tz1 W ws steps a fun s =>
 IntKind.i64.wrap ((↑n : Int) + 1) = (↑s.n : Int) ∧ Q 3 ∧ cmpI (1 : Nat) (3 : Nat) s ∧ (497 : Nat) < 498 ∧ True)) ∧ (((30 : Int) == (at3 ws 0).pl) = false → dataD.pre (mp1, (2 : Int), ()) ∧ badD.pre (Mw.mk W, (30 : Int),
 ()) ∧ Bk 30 W ∧ Bk 30 W ∧ ((at0 W (30 : Int) != 0) = true → false = true ∧ True) ∧ ((at0 W (30 : Int) != 0) = false → Tz1 W ws steps a fun s => (↑n : Int) = (↑s.n : Int) ∧ Q 3 ∧ cmpI (1 : Nat) (3 : Nat) s ∧ (497 : Nat) <
 498 ∧ True))) := by kernel_rfl
theorem al_c12_ok (l p : List Op) (cl : Int) (s : US) (hI : cmpI 1 2 s) : Paid (cA l p cl 28 (cmp 1 2) s) := by
  obtain ⟨n, i, rd, rs, ws, xi, a, c, bk, value, steps, asked, W, rows⟩ := s
  have hW : W.length = 34 := hI.1.1
  have hl : ws.length = 1 := hI.2.1
  have hc : n = cntT ws 2 := hI.2.2
  have h4 : ws.length ≤ 4 := fin_len hI.1
  have hn4 : n ≤ 4 := by rw [hc]; exact Nat.le_trans (cnt_le ws 2) h4
  refine ⟨?_⟩
  rw [al_c12]
  refine ⟨(And.intro rfl (And.intro (by decide) (by decide))), ?_⟩
  refine ⟨fun e0 => ?_, fun e0 => ?_⟩
  · have g := cmp_hit hI (by decide) (j := 0) (by decide) (q := 30) (by decide) e0
    exact ⟨(And.intro rfl (And.intro (by decide) (by decide))), (And.intro (show (0 : Int) ≤ 30 by decide) (show (30 : Int) < (W.length : Int) by rw [hW]; decide)), (And.intro (show (0 : Int) ≤ 30 by decide) (show (30 : Int) < (W.length : Int) by rw [hW]; decide)), (And.intro (show (0 : Int) ≤ 30 by decide) (show (30 : Int) < (W.length : Int) by rw [hW]; decide)), fun h => absurd g.1 (bne_iff_ne.1 h), fun _ => tz1 (s := ⟨n + 1, i, rd, rs, ws, xi, a, c, bk, value, steps, asked, W, rows⟩) ⟨(wN (by omega)), rfl, ⟨hI.1, hl, g.2⟩, by decide, trivial⟩⟩
  · skip
    have g := cmp_miss hI (by decide) (q := 30) (by decide) fun j hj => (by rcases (show j = 0 by omega) with rfl <;> first | exact e0)
    exact ⟨(And.intro rfl (And.intro (by decide) (by decide))), (And.intro (show (0 : Int) ≤ 30 by decide) (show (30 : Int) < (W.length : Int) by rw [hW]; decide)), (And.intro (show (0 : Int) ≤ 30 by decide) (show (30 : Int) < (W.length : Int) by rw [hW]; decide)), (And.intro (show (0 : Int) ≤ 30 by decide) (show (30 : Int) < (W.length : Int) by rw [hW]; decide)), fun h => absurd g.1 (bne_iff_ne.1 h), fun _ => tz1 (s := ⟨n, i, rd, rs, ws, xi, a, c, bk, value, steps, asked, W, rows⟩) ⟨rfl, rfl, ⟨hI.1, hl, g.2⟩, by decide, trivial⟩⟩
theorem al_c13 : Go.Sy.Tree.holds (cA l p cl 28 (cmp 1 3) ⟨n, i, rd, rs, ws, xi, a, c, bk, value, steps, asked, W, rows⟩) = ( dataD.pre (mp1, (3 : Int), ()) ∧ (((32 : Int) == (at3 ws 0).pl) = true → dataD.pre (mp1, (3 :
 Int), ()) ∧ badD.pre (Mw.mk W, (32 : Int), ()) ∧ Bk 32 W ∧ Bk 32 W ∧ ((at0 W (32 : Int) != (at3 ws 0).vl) = true → false = true ∧ True) ∧ ((at0 W (32 : Int) != (at3 ws 0).vl) = false → Tz1 W ws steps a fun s =>
 IntKind.i64.wrap ((↑n : Int) + 1) = (↑s.n : Int) ∧ Q 4 ∧ cmpI (1 : Nat) (4 : Nat) s ∧ (496 : Nat) < 497 ∧ True)) ∧ (((32 : Int) == (at3 ws 0).pl) = false → dataD.pre (mp1, (3 : Int), ()) ∧ badD.pre (Mw.mk W, (32 : Int),
 ()) ∧ Bk 32 W ∧ Bk 32 W ∧ ((at0 W (32 : Int) != 0) = true → false = true ∧ True) ∧ ((at0 W (32 : Int) != 0) = false → Tz1 W ws steps a fun s => (↑n : Int) = (↑s.n : Int) ∧ Q 4 ∧ cmpI (1 : Nat) (4 : Nat) s ∧ (496 : Nat) <
 497 ∧ True))) := by kernel_rfl
theorem al_c13_ok (l p : List Op) (cl : Int) (s : US) (hI : cmpI 1 3 s) : Paid (cA l p cl 28 (cmp 1 3) s) := by
  obtain ⟨n, i, rd, rs, ws, xi, a, c, bk, value, steps, asked, W, rows⟩ := s
  have hW : W.length = 34 := hI.1.1
  have hl : ws.length = 1 := hI.2.1
  have hc : n = cntT ws 3 := hI.2.2
  have h4 : ws.length ≤ 4 := fin_len hI.1
  have hn4 : n ≤ 4 := by rw [hc]; exact Nat.le_trans (cnt_le ws 3) h4
  refine ⟨?_⟩
  rw [al_c13]
  refine ⟨(And.intro rfl (And.intro (by decide) (by decide))), ?_⟩
  refine ⟨fun e0 => ?_, fun e0 => ?_⟩
  · have g := cmp_hit hI (by decide) (j := 0) (by decide) (q := 32) (by decide) e0
    exact ⟨(And.intro rfl (And.intro (by decide) (by decide))), (And.intro (show (0 : Int) ≤ 32 by decide) (show (32 : Int) < (W.length : Int) by rw [hW]; decide)), (And.intro (show (0 : Int) ≤ 32 by decide) (show (32 : Int) < (W.length : Int) by rw [hW]; decide)), (And.intro (show (0 : Int) ≤ 32 by decide) (show (32 : Int) < (W.length : Int) by rw [hW]; decide)), fun h => absurd g.1 (bne_iff_ne.1 h), fun _ => tz1 (s := ⟨n + 1, i, rd, rs, ws, xi, a, c, bk, value, steps, asked, W, rows⟩) ⟨(wN (by omega)), rfl, ⟨hI.1, hl, g.2⟩, by decide, trivial⟩⟩
  · skip
    have g := cmp_miss hI (by decide) (q := 32) (by decide) fun j hj => (by rcases (show j = 0 by omega) with rfl <;> first | exact e0)
    exact ⟨(And.intro rfl (And.intro (by decide) (by decide))), (And.intro (show (0 : Int) ≤ 32 by decide) (show (32 : Int) < (W.length : Int) by rw [hW]; decide)), (And.intro (show (0 : Int) ≤ 32 by decide) (show (32 : Int) < (W.length : Int) by rw [hW]; decide)), (And.intro (show (0 : Int) ≤ 32 by decide) (show (32 : Int) < (W.length : Int) by rw [hW]; decide)), fun h => absurd g.1 (bne_iff_ne.1 h), fun _ => tz1 (s := ⟨n, i, rd, rs, ws, xi, a, c, bk, value, steps, asked, W, rows⟩) ⟨rfl, rfl, ⟨hI.1, hl, g.2⟩, by decide, trivial⟩⟩
theorem al_c14 : Go.Sy.Tree.holds (cA l p cl 28 (cmp 1 4) ⟨n, i, rd, rs, ws, xi, a, c, bk, value, steps, asked, W, rows⟩) = ( (decide ((↑n : Int) > 0) = true → clockD.pre (mp1, ()) ∧ badD.pre (Mw.mk W, (0 : Int), ()) ∧ Bk
 0 W ∧ Bk 0 W ∧ (((↑ws.length : Int) == (↑n : Int)) = true → ((at0 W (0 : Int) == a) = true → threadD.pre (mp1, (1 : Int), (0 : Int), ()) ∧ badD.pre (Mw.mk W, (13 : Int), ()) ∧ Bk 13 W ∧ Bk 13 W ∧ ((at0 W (13 : Int) == 0)
 = true → (((↑n : Int) == 0) = true → true = true ∧ True) ∧ (((↑n : Int) == 0) = false → ((a == a) = true → (a == 1) = true ∧ True) ∧ ((a == a) = false → false = true ∧ True))) ∧ ((at0 W (13 : Int) == 0) = false → false =
 true ∧ True)) ∧ ((at0 W (0 : Int) == a) = false → false = true ∧ True)) ∧ (((↑ws.length : Int) == (↑n : Int)) = false → false = true ∧ True)) ∧ (decide ((↑n : Int) > 0) = false → clockD.pre (mp1, ()) ∧ badD.pre (Mw.mk W,
 (0 : Int), ()) ∧ Bk 0 W ∧ Bk 0 W ∧ (((↑ws.length : Int) == (↑n : Int)) = true → ((at0 W (0 : Int) == 0) = true → threadD.pre (mp1, (1 : Int), (0 : Int), ()) ∧ badD.pre (Mw.mk W, (13 : Int), ()) ∧ Bk 13 W ∧ Bk 13 W ∧
 ((at0 W (13 : Int) == 0) = true → (((↑n : Int) == 0) = true → true = true ∧ True) ∧ (((↑n : Int) == 0) = false → ((a == a) = true → false = true ∧ True) ∧ ((a == a) = false → false = true ∧ True))) ∧ ((at0 W (13 : Int)
 == 0) = false → false = true ∧ True)) ∧ ((at0 W (0 : Int) == 0) = false → false = true ∧ True)) ∧ (((↑ws.length : Int) == (↑n : Int)) = false → false = true ∧ True))) := by kernel_rfl
theorem al_c14_ok (l p : List Op) (cl : Int) (s : US) (hI : cmpI 1 4 s) : Paid (cA l p cl 28 (cmp 1 4) s) := by
  obtain ⟨n, i, rd, rs, ws, xi, a, c, bk, value, steps, asked, W, rows⟩ := s
  have hW : W.length = 34 := hI.1.1
  have hl : ws.length = 1 := hI.2.1
  have hc : n = cntT ws 4 := hI.2.2
  have h4 : ws.length ≤ 4 := fin_len hI.1
  have hn4 : n ≤ 4 := by rw [hc]; exact Nat.le_trans (cnt_le ws 4) h4
  have hn : n = 1 := by rw [hc, cnt_four hI.1.2.2.1]; exact hl
  have hck : at0 W 0 = a := hI.1.2.2.2.2.1.2.1.2.trans hI.1.2.2.2.2.1.2.2.symm
  have hph : at0 W 13 = 0 := hI.1.2.2.2.2.2
  have hm : a = 1 := hI.1.2.2.2.2.1.2.2.trans (made_one (List.ne_nil_of_length_pos (show 0 < ws.length by omega))).symm
  refine ⟨?_⟩
  rw [al_c14]
  subst hn
  exact ⟨fun _ => ⟨rfl, (And.intro (show (0 : Int) ≤ 0 by decide) (show (0 : Int) < (W.length : Int) by rw [hW]; decide)), (And.intro (show (0 : Int) ≤ 0 by decide) (show (0 : Int) < (W.length : Int) by rw [hW]; decide)), (And.intro (show (0 : Int) ≤ 0 by decide) (show (0 : Int) < (W.length : Int) by rw [hW]; decide)), ⟨fun _ => ⟨fun _ => ⟨(And.intro rfl (And.intro rfl rfl)), (And.intro (show (0 : Int) ≤ 13 by decide) (show (13 : Int) < (W.length : Int) by rw [hW]; decide)), (And.intro (show (0 : Int) ≤ 13 by decide) (show (13 : Int) < (W.length : Int) by rw [hW]; decide)), (And.intro (show (0 : Int) ≤ 13 by decide) (show (13 : Int) < (W.length : Int) by rw [hW]; decide)), ⟨fun _ => ⟨fun h => absurd h (by decide), fun _ => ⟨fun _ => ⟨by rw [hm]; rfl, trivial⟩, fun h => absurd h (by rw [beq_self_eq_true]; decide)⟩⟩, fun h => absurd hph (ne_of_beq_false h)⟩⟩, fun h => absurd hck (ne_of_beq_false h)⟩, fun h => absurd (congrArg (fun x : Nat => (x : Int)) hl) (ne_of_beq_false h)⟩⟩, fun h => absurd h (by decide)⟩
theorem al_c20 : Go.Sy.Tree.holds (cA l p cl 28 (cmp 2 0) ⟨n, i, rd, rs, ws, xi, a, c, bk, value, steps, asked, W, rows⟩) = ( dataD.pre (mp1, (0 : Int), ()) ∧ (((26 : Int) == (at3 ws 0).pl) = true → dataD.pre (mp1, (0 :
 Int), ()) ∧ badD.pre (Mw.mk W, (26 : Int), ()) ∧ Bk 26 W ∧ Bk 26 W ∧ ((at0 W (26 : Int) != (at3 ws 0).vl) = true → false = true ∧ True) ∧ ((at0 W (26 : Int) != (at3 ws 0).vl) = false → Tz2 W ws steps a fun s =>
 IntKind.i64.wrap ((↑n : Int) + 1) = (↑s.n : Int) ∧ Q 1 ∧ cmpI (2 : Nat) (1 : Nat) s ∧ (499 : Nat) < 500 ∧ True)) ∧ (((26 : Int) == (at3 ws 0).pl) = false → (((26 : Int) == (at3 ws 1).pl) = true → dataD.pre (mp1, (0 :
 Int), ()) ∧ badD.pre (Mw.mk W, (26 : Int), ()) ∧ Bk 26 W ∧ Bk 26 W ∧ ((at0 W (26 : Int) != (at3 ws 1).vl) = true → false = true ∧ True) ∧ ((at0 W (26 : Int) != (at3 ws 1).vl) = false → Tz2 W ws steps a fun s =>
 IntKind.i64.wrap ((↑n : Int) + 1) = (↑s.n : Int) ∧ Q 1 ∧ cmpI (2 : Nat) (1 : Nat) s ∧ (499 : Nat) < 500 ∧ True)) ∧ (((26 : Int) == (at3 ws 1).pl) = false → dataD.pre (mp1, (0 : Int), ()) ∧ badD.pre (Mw.mk W, (26 : Int),
 ()) ∧ Bk 26 W ∧ Bk 26 W ∧ ((at0 W (26 : Int) != 0) = true → false = true ∧ True) ∧ ((at0 W (26 : Int) != 0) = false → Tz2 W ws steps a fun s => (↑n : Int) = (↑s.n : Int) ∧ Q 1 ∧ cmpI (2 : Nat) (1 : Nat) s ∧ (499 : Nat) <
 500 ∧ True)))) := by kernel_rfl
theorem al_c20_ok (l p : List Op) (cl : Int) (s : US) (hI : cmpI 2 0 s) : Paid (cA l p cl 28 (cmp 2 0) s) := by
  obtain ⟨n, i, rd, rs, ws, xi, a, c, bk, value, steps, asked, W, rows⟩ := s
  have hW : W.length = 34 := hI.1.1
  have hl : ws.length = 2 := hI.2.1
  have hc : n = cntT ws 0 := hI.2.2
  have h4 : ws.length ≤ 4 := fin_len hI.1
  have hn4 : n ≤ 4 := by rw [hc]; exact Nat.le_trans (cnt_le ws 0) h4
  refine ⟨?_⟩
  rw [al_c20]
  refine ⟨(And.intro rfl (And.intro (by decide) (by decide))), ?_⟩
  refine ⟨fun e0 => ?_, fun e0 => ?_⟩
  · have g := cmp_hit hI (by decide) (j := 0) (by decide) (q := 26) (by decide) e0
    exact ⟨(And.intro rfl (And.intro (by decide) (by decide))), (And.intro (show (0 : Int) ≤ 26 by decide) (show (26 : Int) < (W.length : Int) by rw [hW]; decide)), (And.intro (show (0 : Int) ≤ 26 by decide) (show (26 : Int) < (W.length : Int) by rw [hW]; decide)), (And.intro (show (0 : Int) ≤ 26 by decide) (show (26 : Int) < (W.length : Int) by rw [hW]; decide)), fun h => absurd g.1 (bne_iff_ne.1 h), fun _ => tz2 (s := ⟨n + 1, i, rd, rs, ws, xi, a, c, bk, value, steps, asked, W, rows⟩) ⟨(wN (by omega)), rfl, ⟨hI.1, hl, g.2⟩, by decide, trivial⟩⟩
  · skip
    refine ⟨fun e1 => ?_, fun e1 => ?_⟩
    · have g := cmp_hit hI (by decide) (j := 1) (by decide) (q := 26) (by decide) e1
      exact ⟨(And.intro rfl (And.intro (by decide) (by decide))), (And.intro (show (0 : Int) ≤ 26 by decide) (show (26 : Int) < (W.length : Int) by rw [hW]; decide)), (And.intro (show (0 : Int) ≤ 26 by decide) (show (26 : Int) < (W.length : Int) by rw [hW]; decide)), (And.intro (show (0 : Int) ≤ 26 by decide) (show (26 : Int) < (W.length : Int) by rw [hW]; decide)), fun h => absurd g.1 (bne_iff_ne.1 h), fun _ => tz2 (s := ⟨n + 1, i, rd, rs, ws, xi, a, c, bk, value, steps, asked, W, rows⟩) ⟨(wN (by omega)), rfl, ⟨hI.1, hl, g.2⟩, by decide, trivial⟩⟩
    · skip
      have g := cmp_miss hI (by decide) (q := 26) (by decide) fun j hj => (by rcases (show j = 0 ∨ j = 1 by omega) with rfl | rfl <;> first | exact e0 | exact e1)
      exact ⟨(And.intro rfl (And.intro (by decide) (by decide))), (And.intro (show (0 : Int) ≤ 26 by decide) (show (26 : Int) < (W.length : Int) by rw [hW]; decide)), (And.intro (show (0 : Int) ≤ 26 by decide) (show (26 : Int) < (W.length : Int) by rw [hW]; decide)), (And.intro (show (0 : Int) ≤ 26 by decide) (show (26 : Int) < (W.length : Int) by rw [hW]; decide)), fun h => absurd g.1 (bne_iff_ne.1 h), fun _ => tz2 (s := ⟨n, i, rd, rs, ws, xi, a, c, bk, value, steps, asked, W, rows⟩) ⟨rfl, rfl, ⟨hI.1, hl, g.2⟩, by decide, trivial⟩⟩
theorem al_c21 : Go.Sy.Tree.holds (cA l p cl 28 (cmp 2 1) ⟨n, i, rd, rs, ws, xi, a, c, bk, value, steps, asked, W, rows⟩) = ( dataD.pre (mp1, (1 : Int), ()) ∧ (((28 : Int) == (at3 ws 0).pl) = true → dataD.pre (mp1, (1 :
 Int), ()) ∧ badD.pre (Mw.mk W, (28 : Int), ()) ∧ Bk 28 W ∧ Bk 28 W ∧ ((at0 W (28 : Int) != (at3 ws 0).vl) = true → false = true ∧ True) ∧ ((at0 W (28 : Int) != (at3 ws 0).vl) = false → Tz2 W ws steps a fun s =>
 IntKind.i64.wrap ((↑n : Int) + 1) = (↑s.n : Int) ∧ Q 2 ∧ cmpI (2 : Nat) (2 : Nat) s ∧ (498 : Nat) < 499 ∧ True)) ∧ (((28 : Int) == (at3 ws 0).pl) = false → (((28 : Int) == (at3 ws 1).pl) = true → dataD.pre (mp1, (1 :
 Int), ()) ∧ badD.pre (Mw.mk W, (28 : Int), ()) ∧ Bk 28 W ∧ Bk 28 W ∧ ((at0 W (28 : Int) != (at3 ws 1).vl) = true → false = true ∧ True) ∧ ((at0 W (28 : Int) != (at3 ws 1).vl) = false → Tz2 W ws steps a fun s =>
 IntKind.i64.wrap ((↑n : Int) + 1) = (↑s.n : Int) ∧ Q 2 ∧ cmpI (2 : Nat) (2 : Nat) s ∧ (498 : Nat) < 499 ∧ True)) ∧ (((28 : Int) == (at3 ws 1).pl) = false → dataD.pre (mp1, (1 : Int), ()) ∧ badD.pre (Mw.mk W, (28 : Int),
 ()) ∧ Bk 28 W ∧ Bk 28 W ∧ ((at0 W (28 : Int) != 0) = true → false = true ∧ True) ∧ ((at0 W (28 : Int) != 0) = false → Tz2 W ws steps a fun s => (↑n : Int) = (↑s.n : Int) ∧ Q 2 ∧ cmpI (2 : Nat) (2 : Nat) s ∧ (498 : Nat) <
 499 ∧ True)))) := by kernel_rfl
theorem al_c21_ok (l p : List Op) (cl : Int) (s : US) (hI : cmpI 2 1 s) : Paid (cA l p cl 28 (cmp 2 1) s) := by
  obtain ⟨n, i, rd, rs, ws, xi, a, c, bk, value, steps, asked, W, rows⟩ := s
  have hW : W.length = 34 := hI.1.1
  have hl : ws.length = 2 := hI.2.1
  have hc : n = cntT ws 1 := hI.2.2
  have h4 : ws.length ≤ 4 := fin_len hI.1
  have hn4 : n ≤ 4 := by rw [hc]; exact Nat.le_trans (cnt_le ws 1) h4
  refine ⟨?_⟩
  rw [al_c21]
  refine ⟨(And.intro rfl (And.intro (by decide) (by decide))), ?_⟩
  refine ⟨fun e0 => ?_, fun e0 => ?_⟩
  · have g := cmp_hit hI (by decide) (j := 0) (by decide) (q := 28) (by decide) e0
    exact ⟨(And.intro rfl (And.intro (by decide) (by decide))), (And.intro (show (0 : Int) ≤ 28 by decide) (show (28 : Int) < (W.length : Int) by rw [hW]; decide)), (And.intro (show (0 : Int) ≤ 28 by decide) (show (28 : Int) < (W.length : Int) by rw [hW]; decide)), (And.intro (show (0 : Int) ≤ 28 by decide) (show (28 : Int) < (W.length : Int) by rw [hW]; decide)), fun h => absurd g.1 (bne_iff_ne.1 h), fun _ => tz2 (s := ⟨n + 1, i, rd, rs, ws, xi, a, c, bk, value, steps, asked, W, rows⟩) ⟨(wN (by omega)), rfl, ⟨hI.1, hl, g.2⟩, by decide, trivial⟩⟩
  · skip
    refine ⟨fun e1 => ?_, fun e1 => ?_⟩
    · have g := cmp_hit hI (by decide) (j := 1) (by decide) (q := 28) (by decide) e1
      exact ⟨(And.intro rfl (And.intro (by decide) (by decide))), (And.intro (show (0 : Int) ≤ 28 by decide) (show (28 : Int) < (W.length : Int) by rw [hW]; decide)), (And.intro (show (0 : Int) ≤ 28 by decide) (show (28 : Int) < (W.length : Int) by rw [hW]; decide)), (And.intro (show (0 : Int) ≤ 28 by decide) (show (28 : Int) < (W.length : Int) by rw [hW]; decide)), fun h => absurd g.1 (bne_iff_ne.1 h), fun _ => tz2 (s := ⟨n + 1, i, rd, rs, ws, xi, a, c, bk, value, steps, asked, W, rows⟩) ⟨(wN (by omega)), rfl, ⟨hI.1, hl, g.2⟩, by decide, trivial⟩⟩
    · skip
      have g := cmp_miss hI (by decide) (q := 28) (by decide) fun j hj => (by rcases (show j = 0 ∨ j = 1 by omega) with rfl | rfl <;> first | exact e0 | exact e1)
      exact ⟨(And.intro rfl (And.intro (by decide) (by decide))), (And.intro (show (0 : Int) ≤ 28 by decide) (show (28 : Int) < (W.length : Int) by rw [hW]; decide)), (And.intro (show (0 : Int) ≤ 28 by decide) (show (28 : Int) < (W.length : Int) by rw [hW]; decide)), (And.intro (show (0 : Int) ≤ 28 by decide) (show (28 : Int) < (W.length : Int) by rw [hW]; decide)), fun h => absurd g.1 (bne_iff_ne.1 h), fun _ => tz2 (s := ⟨n, i, rd, rs, ws, xi, a, c, bk, value, steps, asked, W, rows⟩) ⟨rfl, rfl, ⟨hI.1, hl, g.2⟩, by decide, trivial⟩⟩
theorem al_c22 : Go.Sy.Tree.holds (cA l p cl 28 (cmp 2 2) ⟨n, i, rd, rs, ws, xi, a, c, bk, value, steps, asked, W, rows⟩) = ( dataD.pre (mp1, (2 : Int), ()) ∧ (((30 : Int) == (at3 ws 0).pl) = true → dataD.pre (mp1, (2 :
 Int), ()) ∧ badD.pre (Mw.mk W, (30 : Int), ()) ∧ Bk 30 W ∧ Bk 30 W ∧ ((at0 W (30 : Int) != (at3 ws 0).vl) = true → false = true ∧ True) ∧ ((at0 W (30 : Int) != (at3 ws 0).vl) = false → Tz2 W ws steps a fun s =>
 IntKind.i64.wrap ((↑n : Int) + 1) = (↑s.n : Int) ∧ Q 3 ∧ cmpI (2 : Nat) (3 : Nat) s ∧ (497 : Nat) < 498 ∧ True)) ∧ (((30 : Int) == (at3 ws 0).pl) = false → (((30 : Int) == (at3 ws 1).pl) = true → dataD.pre (mp1, (2 :
 Int), ()) ∧ badD.pre (Mw.mk W, (30 : Int), ()) ∧ Bk 30 W ∧ Bk 30 W ∧ ((at0 W (30 : Int) != (at3 ws 1).vl) = true → false = true ∧ True) ∧ ((at0 W (30 : Int) != (at3 ws 1).vl) = false → Tz2 W ws steps a fun s =>
 IntKind.i64.wrap ((↑n : Int) + 1) = (↑s.n : Int) ∧ Q 3 ∧ cmpI (2 : Nat) (3 : Nat) s ∧ (497 : Nat) < 498 ∧ True)) ∧ (((30 : Int) == (at3 ws 1).pl) = false → dataD.pre (mp1, (2 : Int), ()) ∧ badD.pre (Mw.mk W, (30 : Int),
 ()) ∧ Bk 30 W ∧ Bk 30 W ∧ ((at0 W (30 : Int) != 0) = true → false = true ∧ True) ∧ ((at0 W (30 : Int) != 0) = false → Tz2 W ws steps a fun s => (↑n : Int) = (↑s.n : Int) ∧ Q 3 ∧ cmpI (2 : Nat) (3 : Nat) s ∧ (497 : Nat) <
 498 ∧ True)))) := by kernel_rfl
theorem al_c22_ok (l p : List Op) (cl : Int) (s : US) (hI : cmpI 2 2 s) : Paid (cA l p cl 28 (cmp 2 2) s) := by
  obtain ⟨n, i, rd, rs, ws, xi, a, c, bk, value, steps, asked, W, rows⟩ := s
  have hW : W.length = 34 := hI.1.1
  have hl : ws.length = 2 := hI.2.1
  have hc : n = cntT ws 2 := hI.2.2
  have h4 : ws.length ≤ 4 := fin_len hI.1
  have hn4 : n ≤ 4 := by rw [hc]; exact Nat.le_trans (cnt_le ws 2) h4
  refine ⟨?_⟩
  rw [al_c22]
  refine ⟨(And.intro rfl (And.intro (by decide) (by decide))), ?_⟩
  refine ⟨fun e0 => ?_, fun e0 => ?_⟩
  · have g := cmp_hit hI (by decide) (j := 0) (by decide) (q := 30) (by decide) e0
    exact ⟨(And.intro rfl (And.intro (by decide) (by decide))), (And.intro (show (0 : Int) ≤ 30 by decide) (show (30 : Int) < (W.length : Int) by rw [hW]; decide)), (And.intro (show (0 : Int) ≤ 30 by decide) (show (30 : Int) < (W.length : Int) by rw [hW]; decide)), (And.intro (show (0 : Int) ≤ 30 by decide) (show (30 : Int) < (W.length : Int) by rw [hW]; decide)), fun h => absurd g.1 (bne_iff_ne.1 h), fun _ => tz2 (s := ⟨n + 1, i, rd, rs, ws, xi, a, c, bk, value, steps, asked, W, rows⟩) ⟨(wN (by omega)), rfl, ⟨hI.1, hl, g.2⟩, by decide, trivial⟩⟩
  · skip
    refine ⟨fun e1 => ?_, fun e1 => ?_⟩
    · have g := cmp_hit hI (by decide) (j := 1) (by decide) (q := 30) (by decide) e1
      exact ⟨(And.intro rfl (And.intro (by decide) (by decide))), (And.intro (show (0 : Int) ≤ 30 by decide) (show (30 : Int) < (W.length : Int) by rw [hW]; decide)), (And.intro (show (0 : Int) ≤ 30 by decide) (show (30 : Int) < (W.length : Int) by rw [hW]; decide)), (And.intro (show (0 : Int) ≤ 30 by decide) (show (30 : Int) < (W.length : Int) by rw [hW]; decide)), fun h => absurd g.1 (bne_iff_ne.1 h), fun _ => tz2 (s := ⟨n + 1, i, rd, rs, ws, xi, a, c, bk, value, steps, asked, W, rows⟩) ⟨(wN (by omega)), rfl, ⟨hI.1, hl, g.2⟩, by decide, trivial⟩⟩
    · skip
      have g := cmp_miss hI (by decide) (q := 30) (by decide) fun j hj => (by rcases (show j = 0 ∨ j = 1 by omega) with rfl | rfl <;> first | exact e0 | exact e1)
      exact ⟨(And.intro rfl (And.intro (by decide) (by decide))), (And.intro (show (0 : Int) ≤ 30 by decide) (show (30 : Int) < (W.length : Int) by rw [hW]; decide)), (And.intro (show (0 : Int) ≤ 30 by decide) (show (30 : Int) < (W.length : Int) by rw [hW]; decide)), (And.intro (show (0 : Int) ≤ 30 by decide) (show (30 : Int) < (W.length : Int) by rw [hW]; decide)), fun h => absurd g.1 (bne_iff_ne.1 h), fun _ => tz2 (s := ⟨n, i, rd, rs, ws, xi, a, c, bk, value, steps, asked, W, rows⟩) ⟨rfl, rfl, ⟨hI.1, hl, g.2⟩, by decide, trivial⟩⟩
theorem al_c23 : Go.Sy.Tree.holds (cA l p cl 28 (cmp 2 3) ⟨n, i, rd, rs, ws, xi, a, c, bk, value, steps, asked, W, rows⟩) = ( dataD.pre (mp1, (3 : Int), ()) ∧ (((32 : Int) == (at3 ws 0).pl) = true → dataD.pre (mp1, (3 :
 Int), ()) ∧ badD.pre (Mw.mk W, (32 : Int), ()) ∧ Bk 32 W ∧ Bk 32 W ∧ ((at0 W (32 : Int) != (at3 ws 0).vl) = true → false = true ∧ True) ∧ ((at0 W (32 : Int) != (at3 ws 0).vl) = false → Tz2 W ws steps a fun s =>
 IntKind.i64.wrap ((↑n : Int) + 1) = (↑s.n : Int) ∧ Q 4 ∧ cmpI (2 : Nat) (4 : Nat) s ∧ (496 : Nat) < 497 ∧ True)) ∧ (((32 : Int) == (at3 ws 0).pl) = false → (((32 : Int) == (at3 ws 1).pl) = true → dataD.pre (mp1, (3 :
 Int), ()) ∧ badD.pre (Mw.mk W, (32 : Int), ()) ∧ Bk 32 W ∧ Bk 32 W ∧ ((at0 W (32 : Int) != (at3 ws 1).vl) = true → false = true ∧ True) ∧ ((at0 W (32 : Int) != (at3 ws 1).vl) = false → Tz2 W ws steps a fun s =>
 IntKind.i64.wrap ((↑n : Int) + 1) = (↑s.n : Int) ∧ Q 4 ∧ cmpI (2 : Nat) (4 : Nat) s ∧ (496 : Nat) < 497 ∧ True)) ∧ (((32 : Int) == (at3 ws 1).pl) = false → dataD.pre (mp1, (3 : Int), ()) ∧ badD.pre (Mw.mk W, (32 : Int),
 ()) ∧ Bk 32 W ∧ Bk 32 W ∧ ((at0 W (32 : Int) != 0) = true → false = true ∧ True) ∧ ((at0 W (32 : Int) != 0) = false → Tz2 W ws steps a fun s => (↑n : Int) = (↑s.n : Int) ∧ Q 4 ∧ cmpI (2 : Nat) (4 : Nat) s ∧ (496 : Nat) <
 497 ∧ True)))) := by kernel_rfl
theorem al_c23_ok (l p : List Op) (cl : Int) (s : US) (hI : cmpI 2 3 s) : Paid (cA l p cl 28 (cmp 2 3) s) := by
  obtain ⟨n, i, rd, rs, ws, xi, a, c, bk, value, steps, asked, W, rows⟩ := s
  have hW : W.length = 34 := hI.1.1
  have hl : ws.length = 2 := hI.2.1
  have hc : n = cntT ws 3 := hI.2.2
  have h4 : ws.length ≤ 4 := fin_len hI.1
  have hn4 : n ≤ 4 := by rw [hc]; exact Nat.le_trans (cnt_le ws 3) h4
  refine ⟨?_⟩
  rw [al_c23]
  refine ⟨(And.intro rfl (And.intro (by decide) (by decide))), ?_⟩
  refine ⟨fun e0 => ?_, fun e0 => ?_⟩
  · have g := cmp_hit hI (by decide) (j := 0) (by decide) (q := 32) (by decide) e0
    exact ⟨(And.intro rfl (And.intro (by decide) (by decide))), (And.intro (show (0 : Int) ≤ 32 by decide) (show (32 : Int) < (W.length : Int) by rw [hW]; decide)), (And.intro (show (0 : Int) ≤ 32 by decide) (show (32 : Int) < (W.length : Int) by rw [hW]; decide)), (And.intro (show (0 : Int) ≤ 32 by decide) (show (32 : Int) < (W.length : Int) by rw [hW]; decide)), fun h => absurd g.1 (bne_iff_ne.1 h), fun _ => tz2 (s := ⟨n + 1, i, rd, rs, ws, xi, a, c, bk, value, steps, asked, W, rows⟩) ⟨(wN (by omega)), rfl, ⟨hI.1, hl, g.2⟩, by decide, trivial⟩⟩
  · skip
    refine ⟨fun e1 => ?_, fun e1 => ?_⟩
    · have g := cmp_hit hI (by decide) (j := 1) (by decide) (q := 32) (by decide) e1
      exact ⟨(And.intro rfl (And.intro (by decide) (by decide))), (And.intro (show (0 : Int) ≤ 32 by decide) (show (32 : Int) < (W.length : Int) by rw [hW]; decide)), (And.intro (show (0 : Int) ≤ 32 by decide) (show (32 : Int) < (W.length : Int) by rw [hW]; decide)), (And.intro (show (0 : Int) ≤ 32 by decide) (show (32 : Int) < (W.length : Int) by rw [hW]; decide)), fun h => absurd g.1 (bne_iff_ne.1 h), fun _ => tz2 (s := ⟨n + 1, i, rd, rs, ws, xi, a, c, bk, value, steps, asked, W, rows⟩) ⟨(wN (by omega)), rfl, ⟨hI.1, hl, g.2⟩, by decide, trivial⟩⟩
    · skip
      have g := cmp_miss hI (by decide) (q := 32) (by decide) fun j hj => (by rcases (show j = 0 ∨ j = 1 by omega) with rfl | rfl <;> first | exact e0 | exact e1)
      exact ⟨(And.intro rfl (And.intro (by decide) (by decide))), (And.intro (show (0 : Int) ≤ 32 by decide) (show (32 : Int) < (W.length : Int) by rw [hW]; decide)), (And.intro (show (0 : Int) ≤ 32 by decide) (show (32 : Int) < (W.length : Int) by rw [hW]; decide)), (And.intro (show (0 : Int) ≤ 32 by decide) (show (32 : Int) < (W.length : Int) by rw [hW]; decide)), fun h => absurd g.1 (bne_iff_ne.1 h), fun _ => tz2 (s := ⟨n, i, rd, rs, ws, xi, a, c, bk, value, steps, asked, W, rows⟩) ⟨rfl, rfl, ⟨hI.1, hl, g.2⟩, by decide, trivial⟩⟩
theorem al_c24 : Go.Sy.Tree.holds (cA l p cl 28 (cmp 2 4) ⟨n, i, rd, rs, ws, xi, a, c, bk, value, steps, asked, W, rows⟩) = ( (decide ((↑n : Int) > 0) = true → clockD.pre (mp1, ()) ∧ badD.pre (Mw.mk W, (0 : Int), ()) ∧ Bk
 0 W ∧ Bk 0 W ∧ (((↑ws.length : Int) == (↑n : Int)) = true → ((at0 W (0 : Int) == a) = true → threadD.pre (mp1, (1 : Int), (0 : Int), ()) ∧ badD.pre (Mw.mk W, (13 : Int), ()) ∧ Bk 13 W ∧ Bk 13 W ∧ ((at0 W (13 : Int) == 0)
 = true → (((↑n : Int) == 0) = true → true = true ∧ True) ∧ (((↑n : Int) == 0) = false → ((a == a) = true → (a == 1) = true ∧ True) ∧ ((a == a) = false → false = true ∧ True))) ∧ ((at0 W (13 : Int) == 0) = false → false =
 true ∧ True)) ∧ ((at0 W (0 : Int) == a) = false → false = true ∧ True)) ∧ (((↑ws.length : Int) == (↑n : Int)) = false → false = true ∧ True)) ∧ (decide ((↑n : Int) > 0) = false → clockD.pre (mp1, ()) ∧ badD.pre (Mw.mk W,
 (0 : Int), ()) ∧ Bk 0 W ∧ Bk 0 W ∧ (((↑ws.length : Int) == (↑n : Int)) = true → ((at0 W (0 : Int) == 0) = true → threadD.pre (mp1, (1 : Int), (0 : Int), ()) ∧ badD.pre (Mw.mk W, (13 : Int), ()) ∧ Bk 13 W ∧ Bk 13 W ∧
 ((at0 W (13 : Int) == 0) = true → (((↑n : Int) == 0) = true → true = true ∧ True) ∧ (((↑n : Int) == 0) = false → ((a == a) = true → false = true ∧ True) ∧ ((a == a) = false → false = true ∧ True))) ∧ ((at0 W (13 : Int)
 == 0) = false → false = true ∧ True)) ∧ ((at0 W (0 : Int) == 0) = false → false = true ∧ True)) ∧ (((↑ws.length : Int) == (↑n : Int)) = false → false = true ∧ True))) := by kernel_rfl
theorem al_c24_ok (l p : List Op) (cl : Int) (s : US) (hI : cmpI 2 4 s) : Paid (cA l p cl 28 (cmp 2 4) s) := by
  obtain ⟨n, i, rd, rs, ws, xi, a, c, bk, value, steps, asked, W, rows⟩ := s
  have hW : W.length = 34 := hI.1.1
  have hl : ws.length = 2 := hI.2.1
  have hc : n = cntT ws 4 := hI.2.2
  have h4 : ws.length ≤ 4 := fin_len hI.1
  have hn4 : n ≤ 4 := by rw [hc]; exact Nat.le_trans (cnt_le ws 4) h4
  have hn : n = 2 := by rw [hc, cnt_four hI.1.2.2.1]; exact hl
  have hck : at0 W 0 = a := hI.1.2.2.2.2.1.2.1.2.trans hI.1.2.2.2.2.1.2.2.symm
  have hph : at0 W 13 = 0 := hI.1.2.2.2.2.2
  have hm : a = 1 := hI.1.2.2.2.2.1.2.2.trans (made_one (List.ne_nil_of_length_pos (show 0 < ws.length by omega))).symm
  refine ⟨?_⟩
  rw [al_c24]
  subst hn
  exact ⟨fun _ => ⟨rfl, (And.intro (show (0 : Int) ≤ 0 by decide) (show (0 : Int) < (W.length : Int) by rw [hW]; decide)), (And.intro (show (0 : Int) ≤ 0 by decide) (show (0 : Int) < (W.length : Int) by rw [hW]; decide)), (And.intro (show (0 : Int) ≤ 0 by decide) (show (0 : Int) < (W.length : Int) by rw [hW]; decide)), ⟨fun _ => ⟨fun _ => ⟨(And.intro rfl (And.intro rfl rfl)), (And.intro (show (0 : Int) ≤ 13 by decide) (show (13 : Int) < (W.length : Int) by rw [hW]; decide)), (And.intro (show (0 : Int) ≤ 13 by decide) (show (13 : Int) < (W.length : Int) by rw [hW]; decide)), (And.intro (show (0 : Int) ≤ 13 by decide) (show (13 : Int) < (W.length : Int) by rw [hW]; decide)), ⟨fun _ => ⟨fun h => absurd h (by decide), fun _ => ⟨fun _ => ⟨by rw [hm]; rfl, trivial⟩, fun h => absurd h (by rw [beq_self_eq_true]; decide)⟩⟩, fun h => absurd hph (ne_of_beq_false h)⟩⟩, fun h => absurd hck (ne_of_beq_false h)⟩, fun h => absurd (congrArg (fun x : Nat => (x : Int)) hl) (ne_of_beq_false h)⟩⟩, fun h => absurd h (by decide)⟩
theorem al_c30 : Go.Sy.Tree.holds (cA l p cl 28 (cmp 3 0) ⟨n, i, rd, rs, ws, xi, a, c, bk, value, steps, asked, W, rows⟩) = ( dataD.pre (mp1, (0 : Int), ()) ∧ (((26 : Int) == (at3 ws 0).pl) = true → dataD.pre (mp1, (0 :
 Int), ()) ∧ badD.pre (Mw.mk W, (26 : Int), ()) ∧ Bk 26 W ∧ Bk 26 W ∧ ((at0 W (26 : Int) != (at3 ws 0).vl) = true → false = true ∧ True) ∧ ((at0 W (26 : Int) != (at3 ws 0).vl) = false → Tz3 W ws steps a fun s =>
 IntKind.i64.wrap ((↑n : Int) + 1) = (↑s.n : Int) ∧ Q 1 ∧ cmpI (3 : Nat) (1 : Nat) s ∧ (499 : Nat) < 500 ∧ True)) ∧ (((26 : Int) == (at3 ws 0).pl) = false → (((26 : Int) == (at3 ws 1).pl) = true → dataD.pre (mp1, (0 :
 Int), ()) ∧ badD.pre (Mw.mk W, (26 : Int), ()) ∧ Bk 26 W ∧ Bk 26 W ∧ ((at0 W (26 : Int) != (at3 ws 1).vl) = true → false = true ∧ True) ∧ ((at0 W (26 : Int) != (at3 ws 1).vl) = false → Tz3 W ws steps a fun s =>
 IntKind.i64.wrap ((↑n : Int) + 1) = (↑s.n : Int) ∧ Q 1 ∧ cmpI (3 : Nat) (1 : Nat) s ∧ (499 : Nat) < 500 ∧ True)) ∧ (((26 : Int) == (at3 ws 1).pl) = false → (((26 : Int) == (at3 ws 2).pl) = true → dataD.pre (mp1, (0 :
 Int), ()) ∧ badD.pre (Mw.mk W, (26 : Int), ()) ∧ Bk 26 W ∧ Bk 26 W ∧ ((at0 W (26 : Int) != (at3 ws 2).vl) = true → false = true ∧ True) ∧ ((at0 W (26 : Int) != (at3 ws 2).vl) = false → Tz3 W ws steps a fun s =>
 IntKind.i64.wrap ((↑n : Int) + 1) = (↑s.n : Int) ∧ Q 1 ∧ cmpI (3 : Nat) (1 : Nat) s ∧ (499 : Nat) < 500 ∧ True)) ∧ (((26 : Int) == (at3 ws 2).pl) = false → dataD.pre (mp1, (0 : Int), ()) ∧ badD.pre (Mw.mk W, (26 : Int),
 ()) ∧ Bk 26 W ∧ Bk 26 W ∧ ((at0 W (26 : Int) != 0) = true → false = true ∧ True) ∧ ((at0 W (26 : Int) != 0) = false → Tz3 W ws steps a fun s => (↑n : Int) = (↑s.n : Int) ∧ Q 1 ∧ cmpI (3 : Nat) (1 : Nat) s ∧ (499 : Nat) <
 500 ∧ True))))) := by kernel_rfl
theorem al_c30_ok (l p : List Op) (cl : Int) (s : US) (hI : cmpI 3 0 s) : Paid (cA l p cl 28 (cmp 3 0) s) := by
  obtain ⟨n, i, rd, rs, ws, xi, a, c, bk, value, steps, asked, W, rows⟩ := s
  have hW : W.length = 34 := hI.1.1
  have hl : ws.length = 3 := hI.2.1
  have hc : n = cntT ws 0 := hI.2.2
  have h4 : ws.length ≤ 4 := fin_len hI.1
  have hn4 : n ≤ 4 := by rw [hc]; exact Nat.le_trans (cnt_le ws 0) h4
  refine ⟨?_⟩
  rw [al_c30]
  refine ⟨(And.intro rfl (And.intro (by decide) (by decide))), ?_⟩
  refine ⟨fun e0 => ?_, fun e0 => ?_⟩
  · have g := cmp_hit hI (by decide) (j := 0) (by decide) (q := 26) (by decide) e0
    exact ⟨(And.intro rfl (And.intro (by decide) (by decide))), (And.intro (show (0 : Int) ≤ 26 by decide) (show (26 : Int) < (W.length : Int) by rw [hW]; decide)), (And.intro (show (0 : Int) ≤ 26 by decide) (show (26 : Int) < (W.length : Int) by rw [hW]; decide)), (And.intro (show (0 : Int) ≤ 26 by decide) (show (26 : Int) < (W.length : Int) by rw [hW]; decide)), fun h => absurd g.1 (bne_iff_ne.1 h), fun _ => tz3 (s := ⟨n + 1, i, rd, rs, ws, xi, a, c, bk, value, steps, asked, W, rows⟩) ⟨(wN (by omega)), rfl, ⟨hI.1, hl, g.2⟩, by decide, trivial⟩⟩
  · skip
    refine ⟨fun e1 => ?_, fun e1 => ?_⟩
    · have g := cmp_hit hI (by decide) (j := 1) (by decide) (q := 26) (by decide) e1
      exact ⟨(And.intro rfl (And.intro (by decide) (by decide))), (And.intro (show (0 : Int) ≤ 26 by decide) (show (26 : Int) < (W.length : Int) by rw [hW]; decide)), (And.intro (show (0 : Int) ≤ 26 by decide) (show (26 : Int) < (W.length : Int) by rw [hW]; decide)), (And.intro (show (0 : Int) ≤ 26 by decide) (show (26 : Int) < (W.length : Int) by rw [hW]; decide)), fun h => absurd g.1 (bne_iff_ne.1 h), fun _ => tz3 (s := ⟨n + 1, i, rd, rs, ws, xi, a, c, bk, value, steps, asked, W, rows⟩) ⟨(wN (by omega)), rfl, ⟨hI.1, hl, g.2⟩, by decide, trivial⟩⟩
    · skip
      refine ⟨fun e2 => ?_, fun e2 => ?_⟩
      · have g := cmp_hit hI (by decide) (j := 2) (by decide) (q := 26) (by decide) e2
        exact ⟨(And.intro rfl (And.intro (by decide) (by decide))), (And.intro (show (0 : Int) ≤ 26 by decide) (show (26 : Int) < (W.length : Int) by rw [hW]; decide)), (And.intro (show (0 : Int) ≤ 26 by decide) (show (26 : Int) < (W.length : Int) by rw [hW]; decide)), (And.intro (show (0 : Int) ≤ 26 by decide) (show (26 : Int) < (W.length : Int) by rw [hW]; decide)), fun h => absurd g.1 (bne_iff_ne.1 h), fun _ => tz3 (s := ⟨n + 1, i, rd, rs, ws, xi, a, c, bk, value, steps, asked, W, rows⟩) ⟨(wN (by omega)), rfl, ⟨hI.1, hl, g.2⟩, by decide, trivial⟩⟩
      · skip
        have g := cmp_miss hI (by decide) (q := 26) (by decide) fun j hj => (by rcases (show j = 0 ∨ j = 1 ∨ j = 2 by omega) with rfl | rfl | rfl <;> first | exact e0 | exact e1 | exact e2)
        exact ⟨(And.intro rfl (And.intro (by decide) (by decide))), (And.intro (show (0 : Int) ≤ 26 by decide) (show (26 : Int) < (W.length : Int) by rw [hW]; decide)), (And.intro (show (0 : Int) ≤ 26 by decide) (show (26 : Int) < (W.length : Int) by rw [hW]; decide)), (And.intro (show (0 : Int) ≤ 26 by decide) (show (26 : Int) < (W.length : Int) by rw [hW]; decide)), fun h => absurd g.1 (bne_iff_ne.1 h), fun _ => tz3 (s := ⟨n, i, rd, rs, ws, xi, a, c, bk, value, steps, asked, W, rows⟩) ⟨rfl, rfl, ⟨hI.1, hl, g.2⟩, by decide, trivial⟩⟩
theorem al_c31 : Go.Sy.Tree.holds (cA l p cl 28 (cmp 3 1) ⟨n, i, rd, rs, ws, xi, a, c, bk, value, steps, asked, W, rows⟩) = ( dataD.pre (mp1, (1 : Int), ()) ∧ (((28 : Int) == (at3 ws 0).pl) = true → dataD.pre (mp1, (1 :
 Int), ()) ∧ badD.pre (Mw.mk W, (28 : Int), ()) ∧ Bk 28 W ∧ Bk 28 W ∧ ((at0 W (28 : Int) != (at3 ws 0).vl) = true → false = true ∧ True) ∧ ((at0 W (28 : Int) != (at3 ws 0).vl) = false → Tz3 W ws steps a fun s =>
 IntKind.i64.wrap ((↑n : Int) + 1) = (↑s.n : Int) ∧ Q 2 ∧ cmpI (3 : Nat) (2 : Nat) s ∧ (498 : Nat) < 499 ∧ True)) ∧ (((28 : Int) == (at3 ws 0).pl) = false → (((28 : Int) == (at3 ws 1).pl) = true → dataD.pre (mp1, (1 :
 Int), ()) ∧ badD.pre (Mw.mk W, (28 : Int), ()) ∧ Bk 28 W ∧ Bk 28 W ∧ ((at0 W (28 : Int) != (at3 ws 1).vl) = true → false = true ∧ True) ∧ ((at0 W (28 : Int) != (at3 ws 1).vl) = false → Tz3 W ws steps a fun s =>
 IntKind.i64.wrap ((↑n : Int) + 1) = (↑s.n : Int) ∧ Q 2 ∧ cmpI (3 : Nat) (2 : Nat) s ∧ (498 : Nat) < 499 ∧ True)) ∧ (((28 : Int) == (at3 ws 1).pl) = false → (((28 : Int) == (at3 ws 2).pl) = true → dataD.pre (mp1, (1 :
 Int), ()) ∧ badD.pre (Mw.mk W, (28 : Int), ()) ∧ Bk 28 W ∧ Bk 28 W ∧ ((at0 W (28 : Int) != (at3 ws 2).vl) = true → false = true ∧ True) ∧ ((at0 W (28 : Int) != (at3 ws 2).vl) = false → Tz3 W ws steps a fun s =>
 IntKind.i64.wrap ((↑n : Int) + 1) = (↑s.n : Int) ∧ Q 2 ∧ cmpI (3 : Nat) (2 : Nat) s ∧ (498 : Nat) < 499 ∧ True)) ∧ (((28 : Int) == (at3 ws 2).pl) = false → dataD.pre (mp1, (1 : Int), ()) ∧ badD.pre (Mw.mk W, (28 : Int),
 ()) ∧ Bk 28 W ∧ Bk 28 W ∧ ((at0 W (28 : Int) != 0) = true → false = true ∧ True) ∧ ((at0 W (28 : Int) != 0) = false → Tz3 W ws steps a fun s => (↑n : Int) = (↑s.n : Int) ∧ Q 2 ∧ cmpI (3 : Nat) (2 : Nat) s ∧ (498 : Nat) <
 499 ∧ True))))) := by kernel_rfl
theorem al_c31_ok (l p : List Op) (cl : Int) (s : US) (hI : cmpI 3 1 s) : Paid (cA l p cl 28 (cmp 3 1) s) := by
  obtain ⟨n, i, rd, rs, ws, xi, a, c, bk, value, steps, asked, W, rows⟩ := s
  have hW : W.length = 34 := hI.1.1
  have hl : ws.length = 3 := hI.2.1
  have hc : n = cntT ws 1 := hI.2.2
  have h4 : ws.length ≤ 4 := fin_len hI.1
  have hn4 : n ≤ 4 := by rw [hc]; exact Nat.le_trans (cnt_le ws 1) h4
  refine ⟨?_⟩
  rw [al_c31]
  refine ⟨(And.intro rfl (And.intro (by decide) (by decide))), ?_⟩
  refine ⟨fun e0 => ?_, fun e0 => ?_⟩
  · have g := cmp_hit hI (by decide) (j := 0) (by decide) (q := 28) (by decide) e0
    exact ⟨(And.intro rfl (And.intro (by decide) (by decide))), (And.intro (show (0 : Int) ≤ 28 by decide) (show (28 : Int) < (W.length : Int) by rw [hW]; decide)), (And.intro (show (0 : Int) ≤ 28 by decide) (show (28 : Int) < (W.length : Int) by rw [hW]; decide)), (And.intro (show (0 : Int) ≤ 28 by decide) (show (28 : Int) < (W.length : Int) by rw [hW]; decide)), fun h => absurd g.1 (bne_iff_ne.1 h), fun _ => tz3 (s := ⟨n + 1, i, rd, rs, ws, xi, a, c, bk, value, steps, asked, W, rows⟩) ⟨(wN (by omega)), rfl, ⟨hI.1, hl, g.2⟩, by decide, trivial⟩⟩
  · skip
    refine ⟨fun e1 => ?_, fun e1 => ?_⟩
    · have g := cmp_hit hI (by decide) (j := 1) (by decide) (q := 28) (by decide) e1
      exact ⟨(And.intro rfl (And.intro (by decide) (by decide))), (And.intro (show (0 : Int) ≤ 28 by decide) (show (28 : Int) < (W.length : Int) by rw [hW]; decide)), (And.intro (show (0 : Int) ≤ 28 by decide) (show (28 : Int) < (W.length : Int) by rw [hW]; decide)), (And.intro (show (0 : Int) ≤ 28 by decide) (show (28 : Int) < (W.length : Int) by rw [hW]; decide)), fun h => absurd g.1 (bne_iff_ne.1 h), fun _ => tz3 (s := ⟨n + 1, i, rd, rs, ws, xi, a, c, bk, value, steps, asked, W, rows⟩) ⟨(wN (by omega)), rfl, ⟨hI.1, hl, g.2⟩, by decide, trivial⟩⟩
    · skip
      refine ⟨fun e2 => ?_, fun e2 => ?_⟩
      · have g := cmp_hit hI (by decide) (j := 2) (by decide) (q := 28) (by decide) e2
        exact ⟨(And.intro rfl (And.intro (by decide) (by decide))), (And.intro (show (0 : Int) ≤ 28 by decide) (show (28 : Int) < (W.length : Int) by rw [hW]; decide)), (And.intro (show (0 : Int) ≤ 28 by decide) (show (28 : Int) < (W.length : Int) by rw [hW]; decide)), (And.intro (show (0 : Int) ≤ 28 by decide) (show (28 : Int) < (W.length : Int) by rw [hW]; decide)), fun h => absurd g.1 (bne_iff_ne.1 h), fun _ => tz3 (s := ⟨n + 1, i, rd, rs, ws, xi, a, c, bk, value, steps, asked, W, rows⟩) ⟨(wN (by omega)), rfl, ⟨hI.1, hl, g.2⟩, by decide, trivial⟩⟩
      · skip
        have g := cmp_miss hI (by decide) (q := 28) (by decide) fun j hj => (by rcases (show j = 0 ∨ j = 1 ∨ j = 2 by omega) with rfl | rfl | rfl <;> first | exact e0 | exact e1 | exact e2)
        exact ⟨(And.intro rfl (And.intro (by decide) (by decide))), (And.intro (show (0 : Int) ≤ 28 by decide) (show (28 : Int) < (W.length : Int) by rw [hW]; decide)), (And.intro (show (0 : Int) ≤ 28 by decide) (show (28 : Int) < (W.length : Int) by rw [hW]; decide)), (And.intro (show (0 : Int) ≤ 28 by decide) (show (28 : Int) < (W.length : Int) by rw [hW]; decide)), fun h => absurd g.1 (bne_iff_ne.1 h), fun _ => tz3 (s := ⟨n, i, rd, rs, ws, xi, a, c, bk, value, steps, asked, W, rows⟩) ⟨rfl, rfl, ⟨hI.1, hl, g.2⟩, by decide, trivial⟩⟩
theorem al_c32 : Go.Sy.Tree.holds (cA l p cl 28 (cmp 3 2) ⟨n, i, rd, rs, ws, xi, a, c, bk, value, steps, asked, W, rows⟩) = ( dataD.pre (mp1, (2 : Int), ()) ∧ (((30 : Int) == (at3 ws 0).pl) = true → dataD.pre (mp1, (2 :
 Int), ()) ∧ badD.pre (Mw.mk W, (30 : Int), ()) ∧ Bk 30 W ∧ Bk 30 W ∧ ((at0 W (30 : Int) != (at3 ws 0).vl) = true → false = true ∧ True) ∧ ((at0 W (30 : Int) != (at3 ws 0).vl) = false → Tz3 W ws steps a fun s =>
 IntKind.i64.wrap ((↑n : Int) + 1) = (↑s.n : Int) ∧ Q 3 ∧ cmpI (3 : Nat) (3 : Nat) s ∧ (497 : Nat) < 498 ∧ True)) ∧ (((30 : Int) == (at3 ws 0).pl) = false → (((30 : Int) == (at3 ws 1).pl) = true → dataD.pre (mp1, (2 :
 Int), ()) ∧ badD.pre (Mw.mk W, (30 : Int), ()) ∧ Bk 30 W ∧ Bk 30 W ∧ ((at0 W (30 : Int) != (at3 ws 1).vl) = true → false = true ∧ True) ∧ ((at0 W (30 : Int) != (at3 ws 1).vl) = false → Tz3 W ws steps a fun s =>
 IntKind.i64.wrap ((↑n : Int) + 1) = (↑s.n : Int) ∧ Q 3 ∧ cmpI (3 : Nat) (3 : Nat) s ∧ (497 : Nat) < 498 ∧ True)) ∧ (((30 : Int) == (at3 ws 1).pl) = false → (((30 : Int) == (at3 ws 2).pl) = true → dataD.pre (mp1, (2 :
 Int), ()) ∧ badD.pre (Mw.mk W, (30 : Int), ()) ∧ Bk 30 W ∧ Bk 30 W ∧ ((at0 W (30 : Int) != (at3 ws 2).vl) = true → false = true ∧ True) ∧ ((at0 W (30 : Int) != (at3 ws 2).vl) = false → Tz3 W ws steps a fun s =>
 IntKind.i64.wrap ((↑n : Int) + 1) = (↑s.n : Int) ∧ Q 3 ∧ cmpI (3 : Nat) (3 : Nat) s ∧ (497 : Nat) < 498 ∧ True)) ∧ (((30 : Int) == (at3 ws 2).pl) = false → dataD.pre (mp1, (2 : Int), ()) ∧ badD.pre (Mw.mk W, (30 : Int),
 ()) ∧ Bk 30 W ∧ Bk 30 W ∧ ((at0 W (30 : Int) != 0) = true → false = true ∧ True) ∧ ((at0 W (30 : Int) != 0) = false → Tz3 W ws steps a fun s => (↑n : Int) = (↑s.n : Int) ∧ Q 3 ∧ cmpI (3 : Nat) (3 : Nat) s ∧ (497 : Nat) <
 498 ∧ True))))) := by kernel_rfl
theorem al_c32_ok (l p : List Op) (cl : Int) (s : US) (hI : cmpI 3 2 s) : Paid (cA l p cl 28 (cmp 3 2) s) := by
  obtain ⟨n, i, rd, rs, ws, xi, a, c, bk, value, steps, asked, W, rows⟩ := s
  have hW : W.length = 34 := hI.1.1
  have hl : ws.length = 3 := hI.2.1
  have hc : n = cntT ws 2 := hI.2.2
  have h4 : ws.length ≤ 4 := fin_len hI.1
  have hn4 : n ≤ 4 := by rw [hc]; exact Nat.le_trans (cnt_le ws 2) h4
  refine ⟨?_⟩
  rw [al_c32]
  refine ⟨(And.intro rfl (And.intro (by decide) (by decide))), ?_⟩
  refine ⟨fun e0 => ?_, fun e0 => ?_⟩
  · have g := cmp_hit hI (by decide) (j := 0) (by decide) (q := 30) (by decide) e0
    exact ⟨(And.intro rfl (And.intro (by decide) (by decide))), (And.intro (show (0 : Int) ≤ 30 by decide) (show (30 : Int) < (W.length : Int) by rw [hW]; decide)), (And.intro (show (0 : Int) ≤ 30 by decide) (show (30 : Int) < (W.length : Int) by rw [hW]; decide)), (And.intro (show (0 : Int) ≤ 30 by decide) (show (30 : Int) < (W.length : Int) by rw [hW]; decide)), fun h => absurd g.1 (bne_iff_ne.1 h), fun _ => tz3 (s := ⟨n + 1, i, rd, rs, ws, xi, a, c, bk, value, steps, asked, W, rows⟩) ⟨(wN (by omega)), rfl, ⟨hI.1, hl, g.2⟩, by decide, trivial⟩⟩
  · skip
    refine ⟨fun e1 => ?_, fun e1 => ?_⟩
    · have g := cmp_hit hI (by decide) (j := 1) (by decide) (q := 30) (by decide) e1
      exact ⟨(And.intro rfl (And.intro (by decide) (by decide))), (And.intro (show (0 : Int) ≤ 30 by decide) (show (30 : Int) < (W.length : Int) by rw [hW]; decide)), (And.intro (show (0 : Int) ≤ 30 by decide) (show (30 : Int) < (W.length : Int) by rw [hW]; decide)), (And.intro (show (0 : Int) ≤ 30 by decide) (show (30 : Int) < (W.length : Int) by rw [hW]; decide)), fun h => absurd g.1 (bne_iff_ne.1 h), fun _ => tz3 (s := ⟨n + 1, i, rd, rs, ws, xi, a, c, bk, value, steps, asked, W, rows⟩) ⟨(wN (by omega)), rfl, ⟨hI.1, hl, g.2⟩, by decide, trivial⟩⟩
    · skip
      refine ⟨fun e2 => ?_, fun e2 => ?_⟩
      · have g := cmp_hit hI (by decide) (j := 2) (by decide) (q := 30) (by decide) e2
        exact ⟨(And.intro rfl (And.intro (by decide) (by decide))), (And.intro (show (0 : Int) ≤ 30 by decide) (show (30 : Int) < (W.length : Int) by rw [hW]; decide)), (And.intro (show (0 : Int) ≤ 30 by decide) (show (30 : Int) < (W.length : Int) by rw [hW]; decide)), (And.intro (show (0 : Int) ≤ 30 by decide) (show (30 : Int) < (W.length : Int) by rw [hW]; decide)), fun h => absurd g.1 (bne_iff_ne.1 h), fun _ => tz3 (s := ⟨n + 1, i, rd, rs, ws, xi, a, c, bk, value, steps, asked, W, rows⟩) ⟨(wN (by omega)), rfl, ⟨hI.1, hl, g.2⟩, by decide, trivial⟩⟩
      · skip
        have g := cmp_miss hI (by decide) (q := 30) (by decide) fun j hj => (by rcases (show j = 0 ∨ j = 1 ∨ j = 2 by omega) with rfl | rfl | rfl <;> first | exact e0 | exact e1 | exact e2)
        exact ⟨(And.intro rfl (And.intro (by decide) (by decide))), (And.intro (show (0 : Int) ≤ 30 by decide) (show (30 : Int) < (W.length : Int) by rw [hW]; decide)), (And.intro (show (0 : Int) ≤ 30 by decide) (show (30 : Int) < (W.length : Int) by rw [hW]; decide)), (And.intro (show (0 : Int) ≤ 30 by decide) (show (30 : Int) < (W.length : Int) by rw [hW]; decide)), fun h => absurd g.1 (bne_iff_ne.1 h), fun _ => tz3 (s := ⟨n, i, rd, rs, ws, xi, a, c, bk, value, steps, asked, W, rows⟩) ⟨rfl, rfl, ⟨hI.1, hl, g.2⟩, by decide, trivial⟩⟩
theorem al_c33 : Go.Sy.Tree.holds (cA l p cl 28 (cmp 3 3) ⟨n, i, rd, rs, ws, xi, a, c, bk, value, steps, asked, W, rows⟩) = ( dataD.pre (mp1, (3 : Int), ()) ∧ (((32 : Int) == (at3 ws 0).pl) = true → dataD.pre (mp1, (3 :
 Int), ()) ∧ badD.pre (Mw.mk W, (32 : Int), ()) ∧ Bk 32 W ∧ Bk 32 W ∧ ((at0 W (32 : Int) != (at3 ws 0).vl) = true → false = true ∧ True) ∧ ((at0 W (32 : Int) != (at3 ws 0).vl) = false → Tz3 W ws steps a fun s =>
 IntKind.i64.wrap ((↑n : Int) + 1) = (↑s.n : Int) ∧ Q 4 ∧ cmpI (3 : Nat) (4 : Nat) s ∧ (496 : Nat) < 497 ∧ True)) ∧ (((32 : Int) == (at3 ws 0).pl) = false → (((32 : Int) == (at3 ws 1).pl) = true → dataD.pre (mp1, (3 :
 Int), ()) ∧ badD.pre (Mw.mk W, (32 : Int), ()) ∧ Bk 32 W ∧ Bk 32 W ∧ ((at0 W (32 : Int) != (at3 ws 1).vl) = true → false = true ∧ True) ∧ ((at0 W (32 : Int) != (at3 ws 1).vl) = false → Tz3 W ws steps a fun s =>
 IntKind.i64.wrap ((↑n : Int) + 1) = (↑s.n : Int) ∧ Q 4 ∧ cmpI (3 : Nat) (4 : Nat) s ∧ (496 : Nat) < 497 ∧ True)) ∧ (((32 : Int) == (at3 ws 1).pl) = false → (((32 : Int) == (at3 ws 2).pl) = true → dataD.pre (mp1, (3 :
 Int), ()) ∧ badD.pre (Mw.mk W, (32 : Int), ()) ∧ Bk 32 W ∧ Bk 32 W ∧ ((at0 W (32 : Int) != (at3 ws 2).vl) = true → false = true ∧ True) ∧ ((at0 W (32 : Int) != (at3 ws 2).vl) = false → Tz3 W ws steps a fun s =>
 IntKind.i64.wrap ((↑n : Int) + 1) = (↑s.n : Int) ∧ Q 4 ∧ cmpI (3 : Nat) (4 : Nat) s ∧ (496 : Nat) < 497 ∧ True)) ∧ (((32 : Int) == (at3 ws 2).pl) = false → dataD.pre (mp1, (3 : Int), ()) ∧ badD.pre (Mw.mk W, (32 : Int),
 ()) ∧ Bk 32 W ∧ Bk 32 W ∧ ((at0 W (32 : Int) != 0) = true → false = true ∧ True) ∧ ((at0 W (32 : Int) != 0) = false → Tz3 W ws steps a fun s => (↑n : Int) = (↑s.n : Int) ∧ Q 4 ∧ cmpI (3 : Nat) (4 : Nat) s ∧ (496 : Nat) <
 497 ∧ True))))) := by kernel_rfl
theorem al_c33_ok (l p : List Op) (cl : Int) (s : US) (hI : cmpI 3 3 s) : Paid (cA l p cl 28 (cmp 3 3) s) := by
  obtain ⟨n, i, rd, rs, ws, xi, a, c, bk, value, steps, asked, W, rows⟩ := s
  have hW : W.length = 34 := hI.1.1
  have hl : ws.length = 3 := hI.2.1
  have hc : n = cntT ws 3 := hI.2.2
  have h4 : ws.length ≤ 4 := fin_len hI.1
  have hn4 : n ≤ 4 := by rw [hc]; exact Nat.le_trans (cnt_le ws 3) h4
  refine ⟨?_⟩
  rw [al_c33]
  refine ⟨(And.intro rfl (And.intro (by decide) (by decide))), ?_⟩
  refine ⟨fun e0 => ?_, fun e0 => ?_⟩
  · have g := cmp_hit hI (by decide) (j := 0) (by decide) (q := 32) (by decide) e0
    exact ⟨(And.intro rfl (And.intro (by decide) (by decide))), (And.intro (show (0 : Int) ≤ 32 by decide) (show (32 : Int) < (W.length : Int) by rw [hW]; decide)), (And.intro (show (0 : Int) ≤ 32 by decide) (show (32 : Int) < (W.length : Int) by rw [hW]; decide)), (And.intro (show (0 : Int) ≤ 32 by decide) (show (32 : Int) < (W.length : Int) by rw [hW]; decide)), fun h => absurd g.1 (bne_iff_ne.1 h), fun _ => tz3 (s := ⟨n + 1, i, rd, rs, ws, xi, a, c, bk, value, steps, asked, W, rows⟩) ⟨(wN (by omega)), rfl, ⟨hI.1, hl, g.2⟩, by decide, trivial⟩⟩
  · skip
    refine ⟨fun e1 => ?_, fun e1 => ?_⟩
    · have g := cmp_hit hI (by decide) (j := 1) (by decide) (q := 32) (by decide) e1
      exact ⟨(And.intro rfl (And.intro (by decide) (by decide))), (And.intro (show (0 : Int) ≤ 32 by decide) (show (32 : Int) < (W.length : Int) by rw [hW]; decide)), (And.intro (show (0 : Int) ≤ 32 by decide) (show (32 : Int) < (W.length : Int) by rw [hW]; decide)), (And.intro (show (0 : Int) ≤ 32 by decide) (show (32 : Int) < (W.length : Int) by rw [hW]; decide)), fun h => absurd g.1 (bne_iff_ne.1 h), fun _ => tz3 (s := ⟨n + 1, i, rd, rs, ws, xi, a, c, bk, value, steps, asked, W, rows⟩) ⟨(wN (by omega)), rfl, ⟨hI.1, hl, g.2⟩, by decide, trivial⟩⟩
    · skip
      refine ⟨fun e2 => ?_, fun e2 => ?_⟩
      · have g := cmp_hit hI (by decide) (j := 2) (by decide) (q := 32) (by decide) e2
        exact ⟨(And.intro rfl (And.intro (by decide) (by decide))), (And.intro (show (0 : Int) ≤ 32 by decide) (show (32 : Int) < (W.length : Int) by rw [hW]; decide)), (And.intro (show (0 : Int) ≤ 32 by decide) (show (32 : Int) < (W.length : Int) by rw [hW]; decide)), (And.intro (show (0 : Int) ≤ 32 by decide) (show (32 : Int) < (W.length : Int) by rw [hW]; decide)), fun h => absurd g.1 (bne_iff_ne.1 h), fun _ => tz3 (s := ⟨n + 1, i, rd, rs, ws, xi, a, c, bk, value, steps, asked, W, rows⟩) ⟨(wN (by omega)), rfl, ⟨hI.1, hl, g.2⟩, by decide, trivial⟩⟩
      · skip
        have g := cmp_miss hI (by decide) (q := 32) (by decide) fun j hj => (by rcases (show j = 0 ∨ j = 1 ∨ j = 2 by omega) with rfl | rfl | rfl <;> first | exact e0 | exact e1 | exact e2)
        exact ⟨(And.intro rfl (And.intro (by decide) (by decide))), (And.intro (show (0 : Int) ≤ 32 by decide) (show (32 : Int) < (W.length : Int) by rw [hW]; decide)), (And.intro (show (0 : Int) ≤ 32 by decide) (show (32 : Int) < (W.length : Int) by rw [hW]; decide)), (And.intro (show (0 : Int) ≤ 32 by decide) (show (32 : Int) < (W.length : Int) by rw [hW]; decide)), fun h => absurd g.1 (bne_iff_ne.1 h), fun _ => tz3 (s := ⟨n, i, rd, rs, ws, xi, a, c, bk, value, steps, asked, W, rows⟩) ⟨rfl, rfl, ⟨hI.1, hl, g.2⟩, by decide, trivial⟩⟩
theorem al_c34 : Go.Sy.Tree.holds (cA l p cl 28 (cmp 3 4) ⟨n, i, rd, rs, ws, xi, a, c, bk, value, steps, asked, W, rows⟩) = ( (decide ((↑n : Int) > 0) = true → clockD.pre (mp1, ()) ∧ badD.pre (Mw.mk W, (0 : Int), ()) ∧ Bk
 0 W ∧ Bk 0 W ∧ (((↑ws.length : Int) == (↑n : Int)) = true → ((at0 W (0 : Int) == a) = true → threadD.pre (mp1, (1 : Int), (0 : Int), ()) ∧ badD.pre (Mw.mk W, (13 : Int), ()) ∧ Bk 13 W ∧ Bk 13 W ∧ ((at0 W (13 : Int) == 0)
 = true → (((↑n : Int) == 0) = true → true = true ∧ True) ∧ (((↑n : Int) == 0) = false → ((a == a) = true → (a == 1) = true ∧ True) ∧ ((a == a) = false → false = true ∧ True))) ∧ ((at0 W (13 : Int) == 0) = false → false =
 true ∧ True)) ∧ ((at0 W (0 : Int) == a) = false → false = true ∧ True)) ∧ (((↑ws.length : Int) == (↑n : Int)) = false → false = true ∧ True)) ∧ (decide ((↑n : Int) > 0) = false → clockD.pre (mp1, ()) ∧ badD.pre (Mw.mk W,
 (0 : Int), ()) ∧ Bk 0 W ∧ Bk 0 W ∧ (((↑ws.length : Int) == (↑n : Int)) = true → ((at0 W (0 : Int) == 0) = true → threadD.pre (mp1, (1 : Int), (0 : Int), ()) ∧ badD.pre (Mw.mk W, (13 : Int), ()) ∧ Bk 13 W ∧ Bk 13 W ∧
 ((at0 W (13 : Int) == 0) = true → (((↑n : Int) == 0) = true → true = true ∧ True) ∧ (((↑n : Int) == 0) = false → ((a == a) = true → false = true ∧ True) ∧ ((a == a) = false → false = true ∧ True))) ∧ ((at0 W (13 : Int)
 == 0) = false → false = true ∧ True)) ∧ ((at0 W (0 : Int) == 0) = false → false = true ∧ True)) ∧ (((↑ws.length : Int) == (↑n : Int)) = false → false = true ∧ True))) := by kernel_rfl
theorem al_c34_ok (l p : List Op) (cl : Int) (s : US) (hI : cmpI 3 4 s) : Paid (cA l p cl 28 (cmp 3 4) s) := by
  obtain ⟨n, i, rd, rs, ws, xi, a, c, bk, value, steps, asked, W, rows⟩ := s
  have hW : W.length = 34 := hI.1.1
  have hl : ws.length = 3 := hI.2.1
  have hc : n = cntT ws 4 := hI.2.2
  have h4 : ws.length ≤ 4 := fin_len hI.1
  have hn4 : n ≤ 4 := by rw [hc]; exact Nat.le_trans (cnt_le ws 4) h4
  have hn : n = 3 := by rw [hc, cnt_four hI.1.2.2.1]; exact hl
  have hck : at0 W 0 = a := hI.1.2.2.2.2.1.2.1.2.trans hI.1.2.2.2.2.1.2.2.symm
  have hph : at0 W 13 = 0 := hI.1.2.2.2.2.2
  have hm : a = 1 := hI.1.2.2.2.2.1.2.2.trans (made_one (List.ne_nil_of_length_pos (show 0 < ws.length by omega))).symm
  refine ⟨?_⟩
  rw [al_c34]
  subst hn
  exact ⟨fun _ => ⟨rfl, (And.intro (show (0 : Int) ≤ 0 by decide) (show (0 : Int) < (W.length : Int) by rw [hW]; decide)), (And.intro (show (0 : Int) ≤ 0 by decide) (show (0 : Int) < (W.length : Int) by rw [hW]; decide)), (And.intro (show (0 : Int) ≤ 0 by decide) (show (0 : Int) < (W.length : Int) by rw [hW]; decide)), ⟨fun _ => ⟨fun _ => ⟨(And.intro rfl (And.intro rfl rfl)), (And.intro (show (0 : Int) ≤ 13 by decide) (show (13 : Int) < (W.length : Int) by rw [hW]; decide)), (And.intro (show (0 : Int) ≤ 13 by decide) (show (13 : Int) < (W.length : Int) by rw [hW]; decide)), (And.intro (show (0 : Int) ≤ 13 by decide) (show (13 : Int) < (W.length : Int) by rw [hW]; decide)), ⟨fun _ => ⟨fun h => absurd h (by decide), fun _ => ⟨fun _ => ⟨by rw [hm]; rfl, trivial⟩, fun h => absurd h (by rw [beq_self_eq_true]; decide)⟩⟩, fun h => absurd hph (ne_of_beq_false h)⟩⟩, fun h => absurd hck (ne_of_beq_false h)⟩, fun h => absurd (congrArg (fun x : Nat => (x : Int)) hl) (ne_of_beq_false h)⟩⟩, fun h => absurd h (by decide)⟩
theorem al_c40 : Go.Sy.Tree.holds (cA l p cl 28 (cmp 4 0) ⟨n, i, rd, rs, ws, xi, a, c, bk, value, steps, asked, W, rows⟩) = ( dataD.pre (mp1, (0 : Int), ()) ∧ (((26 : Int) == (at3 ws 0).pl) = true → dataD.pre (mp1, (0 :
 Int), ()) ∧ badD.pre (Mw.mk W, (26 : Int), ()) ∧ Bk 26 W ∧ Bk 26 W ∧ ((at0 W (26 : Int) != (at3 ws 0).vl) = true → false = true ∧ True) ∧ ((at0 W (26 : Int) != (at3 ws 0).vl) = false → Tz4 W ws steps a fun s =>
 IntKind.i64.wrap ((↑n : Int) + 1) = (↑s.n : Int) ∧ Q 1 ∧ cmpI (4 : Nat) (1 : Nat) s ∧ (499 : Nat) < 500 ∧ True)) ∧ (((26 : Int) == (at3 ws 0).pl) = false → (((26 : Int) == (at3 ws 1).pl) = true → dataD.pre (mp1, (0 :
 Int), ()) ∧ badD.pre (Mw.mk W, (26 : Int), ()) ∧ Bk 26 W ∧ Bk 26 W ∧ ((at0 W (26 : Int) != (at3 ws 1).vl) = true → false = true ∧ True) ∧ ((at0 W (26 : Int) != (at3 ws 1).vl) = false → Tz4 W ws steps a fun s =>
 IntKind.i64.wrap ((↑n : Int) + 1) = (↑s.n : Int) ∧ Q 1 ∧ cmpI (4 : Nat) (1 : Nat) s ∧ (499 : Nat) < 500 ∧ True)) ∧ (((26 : Int) == (at3 ws 1).pl) = false → (((26 : Int) == (at3 ws 2).pl) = true → dataD.pre (mp1, (0 :
 Int), ()) ∧ badD.pre (Mw.mk W, (26 : Int), ()) ∧ Bk 26 W ∧ Bk 26 W ∧ ((at0 W (26 : Int) != (at3 ws 2).vl) = true → false = true ∧ True) ∧ ((at0 W (26 : Int) != (at3 ws 2).vl) = false → Tz4 W ws steps a fun s =>
 IntKind.i64.wrap ((↑n : Int) + 1) = (↑s.n : Int) ∧ Q 1 ∧ cmpI (4 : Nat) (1 : Nat) s ∧ (499 : Nat) < 500 ∧ True)) ∧ (((26 : Int) == (at3 ws 2).pl) = false → (((26 : Int) == (at3 ws 3).pl) = true → dataD.pre (mp1, (0 :
 Int), ()) ∧ badD.pre (Mw.mk W, (26 : Int), ()) ∧ Bk 26 W ∧ Bk 26 W ∧ ((at0 W (26 : Int) != (at3 ws 3).vl) = true → false = true ∧ True) ∧ ((at0 W (26 : Int) != (at3 ws 3).vl) = false → Tz4 W ws steps a fun s =>
 IntKind.i64.wrap ((↑n : Int) + 1) = (↑s.n : Int) ∧ Q 1 ∧ cmpI (4 : Nat) (1 : Nat) s ∧ (499 : Nat) < 500 ∧ True)) ∧ (((26 : Int) == (at3 ws 3).pl) = false → dataD.pre (mp1, (0 : Int), ()) ∧ badD.pre (Mw.mk W, (26 : Int),
 ()) ∧ Bk 26 W ∧ Bk 26 W ∧ ((at0 W (26 : Int) != 0) = true → false = true ∧ True) ∧ ((at0 W (26 : Int) != 0) = false → Tz4 W ws steps a fun s => (↑n : Int) = (↑s.n : Int) ∧ Q 1 ∧ cmpI (4 : Nat) (1 : Nat) s ∧ (499 : Nat) <
 500 ∧ True)))))) := by kernel_rfl
theorem al_c40_ok (l p : List Op) (cl : Int) (s : US) (hI : cmpI 4 0 s) : Paid (cA l p cl 28 (cmp 4 0) s) := by
  obtain ⟨n, i, rd, rs, ws, xi, a, c, bk, value, steps, asked, W, rows⟩ := s
  have hW : W.length = 34 := hI.1.1
  have hl : ws.length = 4 := hI.2.1
  have hc : n = cntT ws 0 := hI.2.2
  have h4 : ws.length ≤ 4 := fin_len hI.1
  have hn4 : n ≤ 4 := by rw [hc]; exact Nat.le_trans (cnt_le ws 0) h4
  refine ⟨?_⟩
  rw [al_c40]
  refine ⟨(And.intro rfl (And.intro (by decide) (by decide))), ?_⟩
  refine ⟨fun e0 => ?_, fun e0 => ?_⟩
  · have g := cmp_hit hI (by decide) (j := 0) (by decide) (q := 26) (by decide) e0
    exact ⟨(And.intro rfl (And.intro (by decide) (by decide))), (And.intro (show (0 : Int) ≤ 26 by decide) (show (26 : Int) < (W.length : Int) by rw [hW]; decide)), (And.intro (show (0 : Int) ≤ 26 by decide) (show (26 : Int) < (W.length : Int) by rw [hW]; decide)), (And.intro (show (0 : Int) ≤ 26 by decide) (show (26 : Int) < (W.length : Int) by rw [hW]; decide)), fun h => absurd g.1 (bne_iff_ne.1 h), fun _ => tz4 (s := ⟨n + 1, i, rd, rs, ws, xi, a, c, bk, value, steps, asked, W, rows⟩) ⟨(wN (by omega)), rfl, ⟨hI.1, hl, g.2⟩, by decide, trivial⟩⟩
  · skip
    refine ⟨fun e1 => ?_, fun e1 => ?_⟩
    · have g := cmp_hit hI (by decide) (j := 1) (by decide) (q := 26) (by decide) e1
      exact ⟨(And.intro rfl (And.intro (by decide) (by decide))), (And.intro (show (0 : Int) ≤ 26 by decide) (show (26 : Int) < (W.length : Int) by rw [hW]; decide)), (And.intro (show (0 : Int) ≤ 26 by decide) (show (26 : Int) < (W.length : Int) by rw [hW]; decide)), (And.intro (show (0 : Int) ≤ 26 by decide) (show (26 : Int) < (W.length : Int) by rw [hW]; decide)), fun h => absurd g.1 (bne_iff_ne.1 h), fun _ => tz4 (s := ⟨n + 1, i, rd, rs, ws, xi, a, c, bk, value, steps, asked, W, rows⟩) ⟨(wN (by omega)), rfl, ⟨hI.1, hl, g.2⟩, by decide, trivial⟩⟩
    · skip
      refine ⟨fun e2 => ?_, fun e2 => ?_⟩
      · have g := cmp_hit hI (by decide) (j := 2) (by decide) (q := 26) (by decide) e2
        exact ⟨(And.intro rfl (And.intro (by decide) (by decide))), (And.intro (show (0 : Int) ≤ 26 by decide) (show (26 : Int) < (W.length : Int) by rw [hW]; decide)), (And.intro (show (0 : Int) ≤ 26 by decide) (show (26 : Int) < (W.length : Int) by rw [hW]; decide)), (And.intro (show (0 : Int) ≤ 26 by decide) (show (26 : Int) < (W.length : Int) by rw [hW]; decide)), fun h => absurd g.1 (bne_iff_ne.1 h), fun _ => tz4 (s := ⟨n + 1, i, rd, rs, ws, xi, a, c, bk, value, steps, asked, W, rows⟩) ⟨(wN (by omega)), rfl, ⟨hI.1, hl, g.2⟩, by decide, trivial⟩⟩
      · skip
        refine ⟨fun e3 => ?_, fun e3 => ?_⟩
        · have g := cmp_hit hI (by decide) (j := 3) (by decide) (q := 26) (by decide) e3
          exact ⟨(And.intro rfl (And.intro (by decide) (by decide))), (And.intro (show (0 : Int) ≤ 26 by decide) (show (26 : Int) < (W.length : Int) by rw [hW]; decide)), (And.intro (show (0 : Int) ≤ 26 by decide) (show (26 : Int) < (W.length : Int) by rw [hW]; decide)), (And.intro (show (0 : Int) ≤ 26 by decide) (show (26 : Int) < (W.length : Int) by rw [hW]; decide)), fun h => absurd g.1 (bne_iff_ne.1 h), fun _ => tz4 (s := ⟨n + 1, i, rd, rs, ws, xi, a, c, bk, value, steps, asked, W, rows⟩) ⟨(wN (by omega)), rfl, ⟨hI.1, hl, g.2⟩, by decide, trivial⟩⟩
        · skip
          have g := cmp_miss hI (by decide) (q := 26) (by decide) fun j hj => (by rcases (show j = 0 ∨ j = 1 ∨ j = 2 ∨ j = 3 by omega) with rfl | rfl | rfl | rfl <;> first | exact e0 | exact e1 | exact e2 | exact e3)
          exact ⟨(And.intro rfl (And.intro (by decide) (by decide))), (And.intro (show (0 : Int) ≤ 26 by decide) (show (26 : Int) < (W.length : Int) by rw [hW]; decide)), (And.intro (show (0 : Int) ≤ 26 by decide) (show (26 : Int) < (W.length : Int) by rw [hW]; decide)), (And.intro (show (0 : Int) ≤ 26 by decide) (show (26 : Int) < (W.length : Int) by rw [hW]; decide)), fun h => absurd g.1 (bne_iff_ne.1 h), fun _ => tz4 (s := ⟨n, i, rd, rs, ws, xi, a, c, bk, value, steps, asked, W, rows⟩) ⟨rfl, rfl, ⟨hI.1, hl, g.2⟩, by decide, trivial⟩⟩
theorem al_c41 : Go.Sy.Tree.holds (cA l p cl 28 (cmp 4 1) ⟨n, i, rd, rs, ws, xi, a, c, bk, value, steps, asked, W, rows⟩) = ( dataD.pre (mp1, (1 : Int), ()) ∧ (((28 : Int) == (at3 ws 0).pl) = true → dataD.pre (mp1, (1 :
 Int), ()) ∧ badD.pre (Mw.mk W, (28 : Int), ()) ∧ Bk 28 W ∧ Bk 28 W ∧ ((at0 W (28 : Int) != (at3 ws 0).vl) = true → false = true ∧ True) ∧ ((at0 W (28 : Int) != (at3 ws 0).vl) = false → Tz4 W ws steps a fun s =>
 IntKind.i64.wrap ((↑n : Int) + 1) = (↑s.n : Int) ∧ Q 2 ∧ cmpI (4 : Nat) (2 : Nat) s ∧ (498 : Nat) < 499 ∧ True)) ∧ (((28 : Int) == (at3 ws 0).pl) = false → (((28 : Int) == (at3 ws 1).pl) = true → dataD.pre (mp1, (1 :
 Int), ()) ∧ badD.pre (Mw.mk W, (28 : Int), ()) ∧ Bk 28 W ∧ Bk 28 W ∧ ((at0 W (28 : Int) != (at3 ws 1).vl) = true → false = true ∧ True) ∧ ((at0 W (28 : Int) != (at3 ws 1).vl) = false → Tz4 W ws steps a fun s =>
 IntKind.i64.wrap ((↑n : Int) + 1) = (↑s.n : Int) ∧ Q 2 ∧ cmpI (4 : Nat) (2 : Nat) s ∧ (498 : Nat) < 499 ∧ True)) ∧ (((28 : Int) == (at3 ws 1).pl) = false → (((28 : Int) == (at3 ws 2).pl) = true → dataD.pre (mp1, (1 :
 Int), ()) ∧ badD.pre (Mw.mk W, (28 : Int), ()) ∧ Bk 28 W ∧ Bk 28 W ∧ ((at0 W (28 : Int) != (at3 ws 2).vl) = true → false = true ∧ True) ∧ ((at0 W (28 : Int) != (at3 ws 2).vl) = false → Tz4 W ws steps a fun s =>
 IntKind.i64.wrap ((↑n : Int) + 1) = (↑s.n : Int) ∧ Q 2 ∧ cmpI (4 : Nat) (2 : Nat) s ∧ (498 : Nat) < 499 ∧ True)) ∧ (((28 : Int) == (at3 ws 2).pl) = false → (((28 : Int) == (at3 ws 3).pl) = true → dataD.pre (mp1, (1 :
 Int), ()) ∧ badD.pre (Mw.mk W, (28 : Int), ()) ∧ Bk 28 W ∧ Bk 28 W ∧ ((at0 W (28 : Int) != (at3 ws 3).vl) = true → false = true ∧ True) ∧ ((at0 W (28 : Int) != (at3 ws 3).vl) = false → Tz4 W ws steps a fun s =>
 IntKind.i64.wrap ((↑n : Int) + 1) = (↑s.n : Int) ∧ Q 2 ∧ cmpI (4 : Nat) (2 : Nat) s ∧ (498 : Nat) < 499 ∧ True)) ∧ (((28 : Int) == (at3 ws 3).pl) = false → dataD.pre (mp1, (1 : Int), ()) ∧ badD.pre (Mw.mk W, (28 : Int),
 ()) ∧ Bk 28 W ∧ Bk 28 W ∧ ((at0 W (28 : Int) != 0) = true → false = true ∧ True) ∧ ((at0 W (28 : Int) != 0) = false → Tz4 W ws steps a fun s => (↑n : Int) = (↑s.n : Int) ∧ Q 2 ∧ cmpI (4 : Nat) (2 : Nat) s ∧ (498 : Nat) <
 499 ∧ True)))))) := by kernel_rfl
theorem al_c41_ok (l p : List Op) (cl : Int) (s : US) (hI : cmpI 4 1 s) : Paid (cA l p cl 28 (cmp 4 1) s) := by
  obtain ⟨n, i, rd, rs, ws, xi, a, c, bk, value, steps, asked, W, rows⟩ := s
  have hW : W.length = 34 := hI.1.1
  have hl : ws.length = 4 := hI.2.1
  have hc : n = cntT ws 1 := hI.2.2
  have h4 : ws.length ≤ 4 := fin_len hI.1
  have hn4 : n ≤ 4 := by rw [hc]; exact Nat.le_trans (cnt_le ws 1) h4
  refine ⟨?_⟩
  rw [al_c41]
  refine ⟨(And.intro rfl (And.intro (by decide) (by decide))), ?_⟩
  refine ⟨fun e0 => ?_, fun e0 => ?_⟩
  · have g := cmp_hit hI (by decide) (j := 0) (by decide) (q := 28) (by decide) e0
    exact ⟨(And.intro rfl (And.intro (by decide) (by decide))), (And.intro (show (0 : Int) ≤ 28 by decide) (show (28 : Int) < (W.length : Int) by rw [hW]; decide)), (And.intro (show (0 : Int) ≤ 28 by decide) (show (28 : Int) < (W.length : Int) by rw [hW]; decide)), (And.intro (show (0 : Int) ≤ 28 by decide) (show (28 : Int) < (W.length : Int) by rw [hW]; decide)), fun h => absurd g.1 (bne_iff_ne.1 h), fun _ => tz4 (s := ⟨n + 1, i, rd, rs, ws, xi, a, c, bk, value, steps, asked, W, rows⟩) ⟨(wN (by omega)), rfl, ⟨hI.1, hl, g.2⟩, by decide, trivial⟩⟩
  · skip
    refine ⟨fun e1 => ?_, fun e1 => ?_⟩
    · have g := cmp_hit hI (by decide) (j := 1) (by decide) (q := 28) (by decide) e1
      exact ⟨(And.intro rfl (And.intro (by decide) (by decide))), (And.intro (show (0 : Int) ≤ 28 by decide) (show (28 : Int) < (W.length : Int) by rw [hW]; decide)), (And.intro (show (0 : Int) ≤ 28 by decide) (show (28 : Int) < (W.length : Int) by rw [hW]; decide)), (And.intro (show (0 : Int) ≤ 28 by decide) (show (28 : Int) < (W.length : Int) by rw [hW]; decide)), fun h => absurd g.1 (bne_iff_ne.1 h), fun _ => tz4 (s := ⟨n + 1, i, rd, rs, ws, xi, a, c, bk, value, steps, asked, W, rows⟩) ⟨(wN (by omega)), rfl, ⟨hI.1, hl, g.2⟩, by decide, trivial⟩⟩
    · skip
      refine ⟨fun e2 => ?_, fun e2 => ?_⟩
      · have g := cmp_hit hI (by decide) (j := 2) (by decide) (q := 28) (by decide) e2
        exact ⟨(And.intro rfl (And.intro (by decide) (by decide))), (And.intro (show (0 : Int) ≤ 28 by decide) (show (28 : Int) < (W.length : Int) by rw [hW]; decide)), (And.intro (show (0 : Int) ≤ 28 by decide) (show (28 : Int) < (W.length : Int) by rw [hW]; decide)), (And.intro (show (0 : Int) ≤ 28 by decide) (show (28 : Int) < (W.length : Int) by rw [hW]; decide)), fun h => absurd g.1 (bne_iff_ne.1 h), fun _ => tz4 (s := ⟨n + 1, i, rd, rs, ws, xi, a, c, bk, value, steps, asked, W, rows⟩) ⟨(wN (by omega)), rfl, ⟨hI.1, hl, g.2⟩, by decide, trivial⟩⟩
      · skip
        refine ⟨fun e3 => ?_, fun e3 => ?_⟩
        · have g := cmp_hit hI (by decide) (j := 3) (by decide) (q := 28) (by decide) e3
          exact ⟨(And.intro rfl (And.intro (by decide) (by decide))), (And.intro (show (0 : Int) ≤ 28 by decide) (show (28 : Int) < (W.length : Int) by rw [hW]; decide)), (And.intro (show (0 : Int) ≤ 28 by decide) (show (28 : Int) < (W.length : Int) by rw [hW]; decide)), (And.intro (show (0 : Int) ≤ 28 by decide) (show (28 : Int) < (W.length : Int) by rw [hW]; decide)), fun h => absurd g.1 (bne_iff_ne.1 h), fun _ => tz4 (s := ⟨n + 1, i, rd, rs, ws, xi, a, c, bk, value, steps, asked, W, rows⟩) ⟨(wN (by omega)), rfl, ⟨hI.1, hl, g.2⟩, by decide, trivial⟩⟩
        · skip
          have g := cmp_miss hI (by decide) (q := 28) (by decide) fun j hj => (by rcases (show j = 0 ∨ j = 1 ∨ j = 2 ∨ j = 3 by omega) with rfl | rfl | rfl | rfl <;> first | exact e0 | exact e1 | exact e2 | exact e3)
          exact ⟨(And.intro rfl (And.intro (by decide) (by decide))), (And.intro (show (0 : Int) ≤ 28 by decide) (show (28 : Int) < (W.length : Int) by rw [hW]; decide)), (And.intro (show (0 : Int) ≤ 28 by decide) (show (28 : Int) < (W.length : Int) by rw [hW]; decide)), (And.intro (show (0 : Int) ≤ 28 by decide) (show (28 : Int) < (W.length : Int) by rw [hW]; decide)), fun h => absurd g.1 (bne_iff_ne.1 h), fun _ => tz4 (s := ⟨n, i, rd, rs, ws, xi, a, c, bk, value, steps, asked, W, rows⟩) ⟨rfl, rfl, ⟨hI.1, hl, g.2⟩, by decide, trivial⟩⟩
theorem al_c42 : Go.Sy.Tree.holds (cA l p cl 28 (cmp 4 2) ⟨n, i, rd, rs, ws, xi, a, c, bk, value, steps, asked, W, rows⟩) = ( dataD.pre (mp1, (2 : Int), ()) ∧ (((30 : Int) == (at3 ws 0).pl) = true → dataD.pre (mp1, (2 :
 Int), ()) ∧ badD.pre (Mw.mk W, (30 : Int), ()) ∧ Bk 30 W ∧ Bk 30 W ∧ ((at0 W (30 : Int) != (at3 ws 0).vl) = true → false = true ∧ True) ∧ ((at0 W (30 : Int) != (at3 ws 0).vl) = false → Tz4 W ws steps a fun s =>
 IntKind.i64.wrap ((↑n : Int) + 1) = (↑s.n : Int) ∧ Q 3 ∧ cmpI (4 : Nat) (3 : Nat) s ∧ (497 : Nat) < 498 ∧ True)) ∧ (((30 : Int) == (at3 ws 0).pl) = false → (((30 : Int) == (at3 ws 1).pl) = true → dataD.pre (mp1, (2 :
 Int), ()) ∧ badD.pre (Mw.mk W, (30 : Int), ()) ∧ Bk 30 W ∧ Bk 30 W ∧ ((at0 W (30 : Int) != (at3 ws 1).vl) = true → false = true ∧ True) ∧ ((at0 W (30 : Int) != (at3 ws 1).vl) = false → Tz4 W ws steps a fun s =>
 IntKind.i64.wrap ((↑n : Int) + 1) = (↑s.n : Int) ∧ Q 3 ∧ cmpI (4 : Nat) (3 : Nat) s ∧ (497 : Nat) < 498 ∧ True)) ∧ (((30 : Int) == (at3 ws 1).pl) = false → (((30 : Int) == (at3 ws 2).pl) = true → dataD.pre (mp1, (2 :
 Int), ()) ∧ badD.pre (Mw.mk W, (30 : Int), ()) ∧ Bk 30 W ∧ Bk 30 W ∧ ((at0 W (30 : Int) != (at3 ws 2).vl) = true → false = true ∧ True) ∧ ((at0 W (30 : Int) != (at3 ws 2).vl) = false → Tz4 W ws steps a fun s =>
 IntKind.i64.wrap ((↑n : Int) + 1) = (↑s.n : Int) ∧ Q 3 ∧ cmpI (4 : Nat) (3 : Nat) s ∧ (497 : Nat) < 498 ∧ True)) ∧ (((30 : Int) == (at3 ws 2).pl) = false → (((30 : Int) == (at3 ws 3).pl) = true → dataD.pre (mp1, (2 :
 Int), ()) ∧ badD.pre (Mw.mk W, (30 : Int), ()) ∧ Bk 30 W ∧ Bk 30 W ∧ ((at0 W (30 : Int) != (at3 ws 3).vl) = true → false = true ∧ True) ∧ ((at0 W (30 : Int) != (at3 ws 3).vl) = false → Tz4 W ws steps a fun s =>
 IntKind.i64.wrap ((↑n : Int) + 1) = (↑s.n : Int) ∧ Q 3 ∧ cmpI (4 : Nat) (3 : Nat) s ∧ (497 : Nat) < 498 ∧ True)) ∧ (((30 : Int) == (at3 ws 3).pl) = false → dataD.pre (mp1, (2 : Int), ()) ∧ badD.pre (Mw.mk W, (30 : Int),
 ()) ∧ Bk 30 W ∧ Bk 30 W ∧ ((at0 W (30 : Int) != 0) = true → false = true ∧ True) ∧ ((at0 W (30 : Int) != 0) = false → Tz4 W ws steps a fun s => (↑n : Int) = (↑s.n : Int) ∧ Q 3 ∧ cmpI (4 : Nat) (3 : Nat) s ∧ (497 : Nat) <
 498 ∧ True)))))) := by kernel_rfl
theorem al_c42_ok (l p : List Op) (cl : Int) (s : US) (hI : cmpI 4 2 s) : Paid (cA l p cl 28 (cmp 4 2) s) := by
  obtain ⟨n, i, rd, rs, ws, xi, a, c, bk, value, steps, asked, W, rows⟩ := s
  have hW : W.length = 34 := hI.1.1
  have hl : ws.length = 4 := hI.2.1
  have hc : n = cntT ws 2 := hI.2.2
  have h4 : ws.length ≤ 4 := fin_len hI.1
  have hn4 : n ≤ 4 := by rw [hc]; exact Nat.le_trans (cnt_le ws 2) h4
  refine ⟨?_⟩
  rw [al_c42]
  refine ⟨(And.intro rfl (And.intro (by decide) (by decide))), ?_⟩
  refine ⟨fun e0 => ?_, fun e0 => ?_⟩
  · have g := cmp_hit hI (by decide) (j := 0) (by decide) (q := 30) (by decide) e0
    exact ⟨(And.intro rfl (And.intro (by decide) (by decide))), (And.intro (show (0 : Int) ≤ 30 by decide) (show (30 : Int) < (W.length : Int) by rw [hW]; decide)), (And.intro (show (0 : Int) ≤ 30 by decide) (show (30 : Int) < (W.length : Int) by rw [hW]; decide)), (And.intro (show (0 : Int) ≤ 30 by decide) (show (30 : Int) < (W.length : Int) by rw [hW]; decide)), fun h => absurd g.1 (bne_iff_ne.1 h), fun _ => tz4 (s := ⟨n + 1, i, rd, rs, ws, xi, a, c, bk, value, steps, asked, W, rows⟩) ⟨(wN (by omega)), rfl, ⟨hI.1, hl, g.2⟩, by decide, trivial⟩⟩
  · skip
    refine ⟨fun e1 => ?_, fun e1 => ?_⟩
    · have g := cmp_hit hI (by decide) (j := 1) (by decide) (q := 30) (by decide) e1
      exact ⟨(And.intro rfl (And.intro (by decide) (by decide))), (And.intro (show (0 : Int) ≤ 30 by decide) (show (30 : Int) < (W.length : Int) by rw [hW]; decide)), (And.intro (show (0 : Int) ≤ 30 by decide) (show (30 : Int) < (W.length : Int) by rw [hW]; decide)), (And.intro (show (0 : Int) ≤ 30 by decide) (show (30 : Int) < (W.length : Int) by rw [hW]; decide)), fun h => absurd g.1 (bne_iff_ne.1 h), fun _ => tz4 (s := ⟨n + 1, i, rd, rs, ws, xi, a, c, bk, value, steps, asked, W, rows⟩) ⟨(wN (by omega)), rfl, ⟨hI.1, hl, g.2⟩, by decide, trivial⟩⟩
    · skip
      refine ⟨fun e2 => ?_, fun e2 => ?_⟩
      · have g := cmp_hit hI (by decide) (j := 2) (by decide) (q := 30) (by decide) e2
        exact ⟨(And.intro rfl (And.intro (by decide) (by decide))), (And.intro (show (0 : Int) ≤ 30 by decide) (show (30 : Int) < (W.length : Int) by rw [hW]; decide)), (And.intro (show (0 : Int) ≤ 30 by decide) (show (30 : Int) < (W.length : Int) by rw [hW]; decide)), (And.intro (show (0 : Int) ≤ 30 by decide) (show (30 : Int) < (W.length : Int) by rw [hW]; decide)), fun h => absurd g.1 (bne_iff_ne.1 h), fun _ => tz4 (s := ⟨n + 1, i, rd, rs, ws, xi, a, c, bk, value, steps, asked, W, rows⟩) ⟨(wN (by omega)), rfl, ⟨hI.1, hl, g.2⟩, by decide, trivial⟩⟩
      · skip
        refine ⟨fun e3 => ?_, fun e3 => ?_⟩
        · have g := cmp_hit hI (by decide) (j := 3) (by decide) (q := 30) (by decide) e3
          exact ⟨(And.intro rfl (And.intro (by decide) (by decide))), (And.intro (show (0 : Int) ≤ 30 by decide) (show (30 : Int) < (W.length : Int) by rw [hW]; decide)), (And.intro (show (0 : Int) ≤ 30 by decide) (show (30 : Int) < (W.length : Int) by rw [hW]; decide)), (And.intro (show (0 : Int) ≤ 30 by decide) (show (30 : Int) < (W.length : Int) by rw [hW]; decide)), fun h => absurd g.1 (bne_iff_ne.1 h), fun _ => tz4 (s := ⟨n + 1, i, rd, rs, ws, xi, a, c, bk, value, steps, asked, W, rows⟩) ⟨(wN (by omega)), rfl, ⟨hI.1, hl, g.2⟩, by decide, trivial⟩⟩
        · skip
          have g := cmp_miss hI (by decide) (q := 30) (by decide) fun j hj => (by rcases (show j = 0 ∨ j = 1 ∨ j = 2 ∨ j = 3 by omega) with rfl | rfl | rfl | rfl <;> first | exact e0 | exact e1 | exact e2 | exact e3)
          exact ⟨(And.intro rfl (And.intro (by decide) (by decide))), (And.intro (show (0 : Int) ≤ 30 by decide) (show (30 : Int) < (W.length : Int) by rw [hW]; decide)), (And.intro (show (0 : Int) ≤ 30 by decide) (show (30 : Int) < (W.length : Int) by rw [hW]; decide)), (And.intro (show (0 : Int) ≤ 30 by decide) (show (30 : Int) < (W.length : Int) by rw [hW]; decide)), fun h => absurd g.1 (bne_iff_ne.1 h), fun _ => tz4 (s := ⟨n, i, rd, rs, ws, xi, a, c, bk, value, steps, asked, W, rows⟩) ⟨rfl, rfl, ⟨hI.1, hl, g.2⟩, by decide, trivial⟩⟩
theorem al_c43 : Go.Sy.Tree.holds (cA l p cl 28 (cmp 4 3) ⟨n, i, rd, rs, ws, xi, a, c, bk, value, steps, asked, W, rows⟩) = ( dataD.pre (mp1, (3 : Int), ()) ∧ (((32 : Int) == (at3 ws 0).pl) = true → dataD.pre (mp1, (3 :
 Int), ()) ∧ badD.pre (Mw.mk W, (32 : Int), ()) ∧ Bk 32 W ∧ Bk 32 W ∧ ((at0 W (32 : Int) != (at3 ws 0).vl) = true → false = true ∧ True) ∧ ((at0 W (32 : Int) != (at3 ws 0).vl) = false → Tz4 W ws steps a fun s =>
 IntKind.i64.wrap ((↑n : Int) + 1) = (↑s.n : Int) ∧ Q 4 ∧ cmpI (4 : Nat) (4 : Nat) s ∧ (496 : Nat) < 497 ∧ True)) ∧ (((32 : Int) == (at3 ws 0).pl) = false → (((32 : Int) == (at3 ws 1).pl) = true → dataD.pre (mp1, (3 :
 Int), ()) ∧ badD.pre (Mw.mk W, (32 : Int), ()) ∧ Bk 32 W ∧ Bk 32 W ∧ ((at0 W (32 : Int) != (at3 ws 1).vl) = true → false = true ∧ True) ∧ ((at0 W (32 : Int) != (at3 ws 1).vl) = false → Tz4 W ws steps a fun s =>
 IntKind.i64.wrap ((↑n : Int) + 1) = (↑s.n : Int) ∧ Q 4 ∧ cmpI (4 : Nat) (4 : Nat) s ∧ (496 : Nat) < 497 ∧ True)) ∧ (((32 : Int) == (at3 ws 1).pl) = false → (((32 : Int) == (at3 ws 2).pl) = true → dataD.pre (mp1, (3 :
 Int), ()) ∧ badD.pre (Mw.mk W, (32 : Int), ()) ∧ Bk 32 W ∧ Bk 32 W ∧ ((at0 W (32 : Int) != (at3 ws 2).vl) = true → false = true ∧ True) ∧ ((at0 W (32 : Int) != (at3 ws 2).vl) = false → Tz4 W ws steps a fun s =>
 IntKind.i64.wrap ((↑n : Int) + 1) = (↑s.n : Int) ∧ Q 4 ∧ cmpI (4 : Nat) (4 : Nat) s ∧ (496 : Nat) < 497 ∧ True)) ∧ (((32 : Int) == (at3 ws 2).pl) = false → (((32 : Int) == (at3 ws 3).pl) = true → dataD.pre (mp1, (3 :
 Int), ()) ∧ badD.pre (Mw.mk W, (32 : Int), ()) ∧ Bk 32 W ∧ Bk 32 W ∧ ((at0 W (32 : Int) != (at3 ws 3).vl) = true → false = true ∧ True) ∧ ((at0 W (32 : Int) != (at3 ws 3).vl) = false → Tz4 W ws steps a fun s =>
 IntKind.i64.wrap ((↑n : Int) + 1) = (↑s.n : Int) ∧ Q 4 ∧ cmpI (4 : Nat) (4 : Nat) s ∧ (496 : Nat) < 497 ∧ True)) ∧ (((32 : Int) == (at3 ws 3).pl) = false → dataD.pre (mp1, (3 : Int), ()) ∧ badD.pre (Mw.mk W, (32 : Int),
 ()) ∧ Bk 32 W ∧ Bk 32 W ∧ ((at0 W (32 : Int) != 0) = true → false = true ∧ True) ∧ ((at0 W (32 : Int) != 0) = false → Tz4 W ws steps a fun s => (↑n : Int) = (↑s.n : Int) ∧ Q 4 ∧ cmpI (4 : Nat) (4 : Nat) s ∧ (496 : Nat) <
 497 ∧ True)))))) := by kernel_rfl
theorem al_c43_ok (l p : List Op) (cl : Int) (s : US) (hI : cmpI 4 3 s) : Paid (cA l p cl 28 (cmp 4 3) s) := by
  obtain ⟨n, i, rd, rs, ws, xi, a, c, bk, value, steps, asked, W, rows⟩ := s
  have hW : W.length = 34 := hI.1.1
  have hl : ws.length = 4 := hI.2.1
  have hc : n = cntT ws 3 := hI.2.2
  have h4 : ws.length ≤ 4 := fin_len hI.1
  have hn4 : n ≤ 4 := by rw [hc]; exact Nat.le_trans (cnt_le ws 3) h4
  refine ⟨?_⟩
  rw [al_c43]
  refine ⟨(And.intro rfl (And.intro (by decide) (by decide))), ?_⟩
  refine ⟨fun e0 => ?_, fun e0 => ?_⟩
  · have g := cmp_hit hI (by decide) (j := 0) (by decide) (q := 32) (by decide) e0
    exact ⟨(And.intro rfl (And.intro (by decide) (by decide))), (And.intro (show (0 : Int) ≤ 32 by decide) (show (32 : Int) < (W.length : Int) by rw [hW]; decide)), (And.intro (show (0 : Int) ≤ 32 by decide) (show (32 : Int) < (W.length : Int) by rw [hW]; decide)), (And.intro (show (0 : Int) ≤ 32 by decide) (show (32 : Int) < (W.length : Int) by rw [hW]; decide)), fun h => absurd g.1 (bne_iff_ne.1 h), fun _ => tz4 (s := ⟨n + 1, i, rd, rs, ws, xi, a, c, bk, value, steps, asked, W, rows⟩) ⟨(wN (by omega)), rfl, ⟨hI.1, hl, g.2⟩, by decide, trivial⟩⟩
  · skip
    refine ⟨fun e1 => ?_, fun e1 => ?_⟩
    · have g := cmp_hit hI (by decide) (j := 1) (by decide) (q := 32) (by decide) e1
      exact ⟨(And.intro rfl (And.intro (by decide) (by decide))), (And.intro (show (0 : Int) ≤ 32 by decide) (show (32 : Int) < (W.length : Int) by rw [hW]; decide)), (And.intro (show (0 : Int) ≤ 32 by decide) (show (32 : Int) < (W.length : Int) by rw [hW]; decide)), (And.intro (show (0 : Int) ≤ 32 by decide) (show (32 : Int) < (W.length : Int) by rw [hW]; decide)), fun h => absurd g.1 (bne_iff_ne.1 h), fun _ => tz4 (s := ⟨n + 1, i, rd, rs, ws, xi, a, c, bk, value, steps, asked, W, rows⟩) ⟨(wN (by omega)), rfl, ⟨hI.1, hl, g.2⟩, by decide, trivial⟩⟩
    · skip
      refine ⟨fun e2 => ?_, fun e2 => ?_⟩
      · have g := cmp_hit hI (by decide) (j := 2) (by decide) (q := 32) (by decide) e2
        exact ⟨(And.intro rfl (And.intro (by decide) (by decide))), (And.intro (show (0 : Int) ≤ 32 by decide) (show (32 : Int) < (W.length : Int) by rw [hW]; decide)), (And.intro (show (0 : Int) ≤ 32 by decide) (show (32 : Int) < (W.length : Int) by rw [hW]; decide)), (And.intro (show (0 : Int) ≤ 32 by decide) (show (32 : Int) < (W.length : Int) by rw [hW]; decide)), fun h => absurd g.1 (bne_iff_ne.1 h), fun _ => tz4 (s := ⟨n + 1, i, rd, rs, ws, xi, a, c, bk, value, steps, asked, W, rows⟩) ⟨(wN (by omega)), rfl, ⟨hI.1, hl, g.2⟩, by decide, trivial⟩⟩
      · skip
        refine ⟨fun e3 => ?_, fun e3 => ?_⟩
        · have g := cmp_hit hI (by decide) (j := 3) (by decide) (q := 32) (by decide) e3
          exact ⟨(And.intro rfl (And.intro (by decide) (by decide))), (And.intro (show (0 : Int) ≤ 32 by decide) (show (32 : Int) < (W.length : Int) by rw [hW]; decide)), (And.intro (show (0 : Int) ≤ 32 by decide) (show (32 : Int) < (W.length : Int) by rw [hW]; decide)), (And.intro (show (0 : Int) ≤ 32 by decide) (show (32 : Int) < (W.length : Int) by rw [hW]; decide)), fun h => absurd g.1 (bne_iff_ne.1 h), fun _ => tz4 (s := ⟨n + 1, i, rd, rs, ws, xi, a, c, bk, value, steps, asked, W, rows⟩) ⟨(wN (by omega)), rfl, ⟨hI.1, hl, g.2⟩, by decide, trivial⟩⟩
        · skip
          have g := cmp_miss hI (by decide) (q := 32) (by decide) fun j hj => (by rcases (show j = 0 ∨ j = 1 ∨ j = 2 ∨ j = 3 by omega) with rfl | rfl | rfl | rfl <;> first | exact e0 | exact e1 | exact e2 | exact e3)
          exact ⟨(And.intro rfl (And.intro (by decide) (by decide))), (And.intro (show (0 : Int) ≤ 32 by decide) (show (32 : Int) < (W.length : Int) by rw [hW]; decide)), (And.intro (show (0 : Int) ≤ 32 by decide) (show (32 : Int) < (W.length : Int) by rw [hW]; decide)), (And.intro (show (0 : Int) ≤ 32 by decide) (show (32 : Int) < (W.length : Int) by rw [hW]; decide)), fun h => absurd g.1 (bne_iff_ne.1 h), fun _ => tz4 (s := ⟨n, i, rd, rs, ws, xi, a, c, bk, value, steps, asked, W, rows⟩) ⟨rfl, rfl, ⟨hI.1, hl, g.2⟩, by decide, trivial⟩⟩
theorem al_c44 : Go.Sy.Tree.holds (cA l p cl 28 (cmp 4 4) ⟨n, i, rd, rs, ws, xi, a, c, bk, value, steps, asked, W, rows⟩) = ( (decide ((↑n : Int) > 0) = true → clockD.pre (mp1, ()) ∧ badD.pre (Mw.mk W, (0 : Int), ()) ∧ Bk
 0 W ∧ Bk 0 W ∧ (((↑ws.length : Int) == (↑n : Int)) = true → ((at0 W (0 : Int) == a) = true → threadD.pre (mp1, (1 : Int), (0 : Int), ()) ∧ badD.pre (Mw.mk W, (13 : Int), ()) ∧ Bk 13 W ∧ Bk 13 W ∧ ((at0 W (13 : Int) == 0)
 = true → (((↑n : Int) == 0) = true → true = true ∧ True) ∧ (((↑n : Int) == 0) = false → ((a == a) = true → (a == 1) = true ∧ True) ∧ ((a == a) = false → false = true ∧ True))) ∧ ((at0 W (13 : Int) == 0) = false → false =
 true ∧ True)) ∧ ((at0 W (0 : Int) == a) = false → false = true ∧ True)) ∧ (((↑ws.length : Int) == (↑n : Int)) = false → false = true ∧ True)) ∧ (decide ((↑n : Int) > 0) = false → clockD.pre (mp1, ()) ∧ badD.pre (Mw.mk W,
 (0 : Int), ()) ∧ Bk 0 W ∧ Bk 0 W ∧ (((↑ws.length : Int) == (↑n : Int)) = true → ((at0 W (0 : Int) == 0) = true → threadD.pre (mp1, (1 : Int), (0 : Int), ()) ∧ badD.pre (Mw.mk W, (13 : Int), ()) ∧ Bk 13 W ∧ Bk 13 W ∧
 ((at0 W (13 : Int) == 0) = true → (((↑n : Int) == 0) = true → true = true ∧ True) ∧ (((↑n : Int) == 0) = false → ((a == a) = true → false = true ∧ True) ∧ ((a == a) = false → false = true ∧ True))) ∧ ((at0 W (13 : Int)
 == 0) = false → false = true ∧ True)) ∧ ((at0 W (0 : Int) == 0) = false → false = true ∧ True)) ∧ (((↑ws.length : Int) == (↑n : Int)) = false → false = true ∧ True))) := by kernel_rfl
theorem al_c44_ok (l p : List Op) (cl : Int) (s : US) (hI : cmpI 4 4 s) : Paid (cA l p cl 28 (cmp 4 4) s) := by
  obtain ⟨n, i, rd, rs, ws, xi, a, c, bk, value, steps, asked, W, rows⟩ := s
  have hW : W.length = 34 := hI.1.1
  have hl : ws.length = 4 := hI.2.1
  have hc : n = cntT ws 4 := hI.2.2
  have h4 : ws.length ≤ 4 := fin_len hI.1
  have hn4 : n ≤ 4 := by rw [hc]; exact Nat.le_trans (cnt_le ws 4) h4
  have hn : n = 4 := by rw [hc, cnt_four hI.1.2.2.1]; exact hl
  have hck : at0 W 0 = a := hI.1.2.2.2.2.1.2.1.2.trans hI.1.2.2.2.2.1.2.2.symm
  have hph : at0 W 13 = 0 := hI.1.2.2.2.2.2
  have hm : a = 1 := hI.1.2.2.2.2.1.2.2.trans (made_one (List.ne_nil_of_length_pos (show 0 < ws.length by omega))).symm
  refine ⟨?_⟩
  rw [al_c44]
  subst hn
  exact ⟨fun _ => ⟨rfl, (And.intro (show (0 : Int) ≤ 0 by decide) (show (0 : Int) < (W.length : Int) by rw [hW]; decide)), (And.intro (show (0 : Int) ≤ 0 by decide) (show (0 : Int) < (W.length : Int) by rw [hW]; decide)), (And.intro (show (0 : Int) ≤ 0 by decide) (show (0 : Int) < (W.length : Int) by rw [hW]; decide)), ⟨fun _ => ⟨fun _ => ⟨(And.intro rfl (And.intro rfl rfl)), (And.intro (show (0 : Int) ≤ 13 by decide) (show (13 : Int) < (W.length : Int) by rw [hW]; decide)), (And.intro (show (0 : Int) ≤ 13 by decide) (show (13 : Int) < (W.length : Int) by rw [hW]; decide)), (And.intro (show (0 : Int) ≤ 13 by decide) (show (13 : Int) < (W.length : Int) by rw [hW]; decide)), ⟨fun _ => ⟨fun h => absurd h (by decide), fun _ => ⟨fun _ => ⟨by rw [hm]; rfl, trivial⟩, fun h => absurd h (by rw [beq_self_eq_true]; decide)⟩⟩, fun h => absurd hph (ne_of_beq_false h)⟩⟩, fun h => absurd hck (ne_of_beq_false h)⟩, fun h => absurd (congrArg (fun x : Nat => (x : Int)) hl) (ne_of_beq_false h)⟩⟩, fun h => absurd h (by decide)⟩
end Go.Proofs.Ytmjjljngaefpaaa

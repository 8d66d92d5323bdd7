/- Tl2Two: a step of the program's attempt, from each of its states. -/
import Derived.Test.YtmjjljngaefpaaaXs
namespace Go.Proofs.Ytmjjljngaefpaaa
open Go.RowKit Go.Am Go.Sy
open Go.IntKind (i64 u64)
set_option linter.unusedVariables false
set_option linter.unusedSimpArgs false
variable (code th c part : Int) (i : Nat) (at_ row seen val value cause stamp made bk bst bse bsp : Int) (ph ld : Bool) (rs ws tk : List Wo) (rows W : List Int) (asked steps lk la lv ls ybk ybst ybse ybsp : Int)
variable (o : Nat → Option Ob)
theorem xs_t (st : XM → XM) (I : XM → Prop) : Go.Sy.Tree.holds (vcX (xStepD st I 62) ⟨code,th,c,1,4,6,i,at_,row,seen,val,value,cause,stamp,made,bk,bst,bse,bsp,true,rs,ws,asked,rows,tk,W,steps,
 lk,la,lv,ls,ld,ybk,ybst,ybse,ybsp⟩ (hpF o 0 60)) = ( (fun (u0 : XM) => sizeD.pre (mp1,()) ∧ (decide ((↑W.length : Int) < 34) = true → Lf (qN st u0) (dsF o 59 51) 1 th c (1 : Int) 4 6 (↑i
 : Int) at_ row seen val value cause stamp made bk bst bse bsp true rs ws asked rows tk W steps lk la lv ls ld) ∧ (decide ((↑W.length : Int) < 34) = false → ((0 : Int) ≤ (↑i : Int) ∧ (↑i : Int) < (↑rows.length : Int)) ∧
 ((0 : Int) ≤ (↑i : Int) ∧ (↑i : Int) < (↑rows.length : Int)) ∧ stripeD.pre (mp1,at0 rows (↑i : Int),()) ∧ takenD.pre (seen,th,()) ∧ badD.pre (Mw.mk W,2 + at0 rows (↑i : Int),()) ∧ ((0 : Int) ≤ 2 + at0 rows
 (↑i : Int) ∧ 2 + at0 rows (↑i : Int) < (↑W.length : Int)) ∧ ((0 : Int) ≤ 2 + at0 rows (↑i : Int) ∧ 2 + at0 rows (↑i : Int) < (↑W.length : Int)) ∧ ((at0 W ((2 : Int) + at0 rows (↑i : Int)) == seen) = true
 → ((0 : Int) ≤ 2 + at0 rows (↑i : Int) ∧ 2 + at0 rows (↑i : Int) < (↑W.length : Int)) ∧ ((0 : Int) ≤ 2 + at0 rows (↑i : Int) ∧ 2 + at0 rows (↑i : Int) < (↑W.length : Int)) ∧ ((!at0 W ((2 : Int) + at0 rows
 (↑i : Int)) == seen) = true → (decide ((0 : Int) < (↑tk.length : Int)) = true → Lf (qN st u0) (dsF o 59 51) 0 th c (3 : Int) 5 0 0 at_ row seen val value (1 : Int) stamp (0 : Int) bk bst
 bse bsp true rs ws asked rows tk (W.set ((2 : Int) + at0 rows (↑i : Int)).toNat (seen - seen % 16 + th + 1)) (i64.wrap (steps + 1)) 3 ((2 : Int) + at0 rows (↑i : Int)) (seen - seen % 16 +
 th + 1) (at0 W ((2 : Int) + at0 rows (↑i : Int))) (at0 W ((2 : Int) + at0 rows (↑i : Int)) == seen)) ∧ (decide ((0 : Int) < (↑tk.length : Int)) = false → Lf (qN st u0) (dsF o 59 51) 0 th c (3 : Int) 5 0 0 at_ row seen val value (1 : Int) stamp (0 : Int) bk bst bse bsp true rs ws asked rows tk (W.set ((2 : Int) + at0 rows (↑i : Int)).toNat (seen - seen % 16 + th + 1)) (i64.wrap (steps + 1))
 3 ((2 : Int) + at0 rows (↑i : Int)) (seen - seen % 16 + th + 1) (at0 W ((2 : Int) + at0 rows (↑i : Int))) (at0 W ((2 : Int) + at0 rows (↑i : Int)) == seen))) ∧ ((!at0 W ((2 : Int) + at0 rows (↑i : Int))
 == seen) = false → (tk.length + [Wo.mk ((2 : Int) + at0 rows (↑i : Int)) seen].length) * 16 ≤ 140737488355328 ∧ (decide (i64.wrap ((↑i : Int) + 1) ≥ (↑rows.length : Int)) = true → Lf (qN st u0) (dsF o 59 51) 0 th c (1 : Int) 4 7 (i64.wrap ((↑i : Int) + 1)) at_ row seen val value cause stamp made bk bst bse bsp true rs ws asked rows (tk ++ [Wo.mk ((2 : Int) + at0 rows (↑i : Int)) seen]) (W.set ((2 :
 Int) + at0 rows (↑i : Int)).toNat (seen - seen % 16 + th + 1)) (i64.wrap (steps + 1)) 3 ((2 : Int) + at0 rows (↑i : Int)) (seen - seen % 16 + th + 1) (at0 W ((2 : Int) + at0 rows (↑i :
 Int))) (at0 W ((2 : Int) + at0 rows (↑i : Int)) == seen)) ∧ (decide (i64.wrap ((↑i : Int) + 1) ≥ (↑rows.length : Int)) = false → Lf (qN st u0) (dsF o 59 51) 0 th c (1 : Int) 4 5
 (i64.wrap ((↑i : Int) + 1)) at_ row seen val value cause stamp made bk bst bse bsp true rs ws asked rows (tk ++ [Wo.mk ((2 : Int) + at0 rows (↑i : Int)) seen]) (W.set ((2 : Int) + at0 rows (↑i : Int)).toNat (seen
 - seen % 16 + th + 1)) (i64.wrap (steps + 1)) 3 ((2 : Int) + at0 rows (↑i : Int)) (seen - seen % 16 + th + 1) (at0 W ((2 : Int) + at0 rows (↑i : Int))) (at0 W ((2 : Int) + at0 rows (↑i :
 Int)) == seen)))) ∧ ((at0 W ((2 : Int) + at0 rows (↑i : Int)) == seen) = false → ((!at0 W ((2 : Int) + at0 rows (↑i : Int)) == seen) = true → (decide ((0 : Int) < (↑tk.length : Int)) = true → Lf (qN st u0) (dsF o 59 51)
 0 th c (3 : Int) 5 0 0 at_ row seen val value (1 : Int) stamp (0 : Int) bk bst bse bsp true rs ws asked rows tk W (i64.wrap (steps + 1)) 3 ((2 : Int) + at0 rows (↑i : Int))
 (seen - seen % 16 + th + 1) (at0 W ((2 : Int) + at0 rows (↑i : Int))) (at0 W ((2 : Int) + at0 rows (↑i : Int)) == seen)) ∧ (decide ((0 : Int) < (↑tk.length : Int)) = false → Lf (qN st u0) (dsF o 59 51) 0
 th c (3 : Int) 5 0 0 at_ row seen val value (1 : Int) stamp (0 : Int) bk bst bse bsp true rs ws asked rows tk W (i64.wrap (steps + 1)) 3 ((2 : Int) + at0 rows (↑i : Int)) (seen -
 seen % 16 + th + 1) (at0 W ((2 : Int) + at0 rows (↑i : Int))) (at0 W ((2 : Int) + at0 rows (↑i : Int)) == seen))) ∧ ((!at0 W ((2 : Int) + at0 rows (↑i : Int)) == seen) = false → (tk.length + [Wo.mk ((2 : Int) +
 at0 rows (↑i : Int)) seen].length) * 16 ≤ 140737488355328 ∧ (decide (i64.wrap ((↑i : Int) + 1) ≥ (↑rows.length : Int)) = true → Lf (qN st u0) (dsF o 59 51) 0 th c (1 : Int) 4 7
 (i64.wrap ((↑i : Int) + 1)) at_ row seen val value cause stamp made bk bst bse bsp true rs ws asked rows (tk ++ [Wo.mk ((2 : Int) + at0 rows (↑i : Int)) seen]) W (i64.wrap (steps + 1)) 3 ((2 :
 Int) + at0 rows (↑i : Int)) (seen - seen % 16 + th + 1) (at0 W ((2 : Int) + at0 rows (↑i : Int))) (at0 W ((2 : Int) + at0 rows (↑i : Int)) == seen)) ∧ (decide (i64.wrap ((↑i : Int) + 1) ≥ (↑rows.length :
 Int)) = false → Lf (qN st u0) (dsF o 59 51) 0 th c (1 : Int) 4 5 (i64.wrap ((↑i : Int) + 1)) at_ row seen val value cause stamp made bk bst bse bsp true rs ws asked rows (tk ++ [Wo.mk ((2
 : Int) + at0 rows (↑i : Int)) seen]) W (i64.wrap (steps + 1)) 3 ((2 : Int) + at0 rows (↑i : Int)) (seen - seen % 16 + th + 1) (at0 W ((2 : Int) + at0 rows (↑i : Int))) (at0 W ((2 : Int) + at0 rows
 (↑i : Int)) == seen)))))) (XM.mk code th c (1 : Int) 4 6 i at_ row seen val value cause stamp made bk bst bse bsp true rs ws asked rows tk W steps lk la lv ls ld ybk ybst ybse ybsp)) := by kernel_rfl
theorem xs_t_ok (I : XM → Prop) (hW : W.length = 34) (hst : ∀ r : Int,0 ≤ r → r < 3 → 0 ≤ at0 W (2 + r) ∧ at0 W (2 + r) < 1099511627776) (hi : i < rows.length) (hrr : ∀ r ∈ rows,0 ≤ r ∧ r < 3) (hro : rows.length ≤ 3) (hth : 0 ≤ th ∧ th < 3) (hse : 0 ≤ seen ∧ seen < 1099511627776) (htl : tk.length ≤ 9) : Paid (vcX (xStepD stepX I 62) ⟨code,th,c,1,4,6,i,at_,row,seen,val,value,cause,stamp,made,bk,bst,bse,bsp,true,rs,ws,asked,rows,tk,W,steps,lk,la,lv,ls,ld,ybk,ybst,ybse,ybsp⟩ (hpF o 0 60)) := by
 have ha : 0 ≤ at0 rows (i : Int) ∧ at0 rows (i : Int) < 3 := by rw [at0_get hi]; exact hrr _ (List.getElem_mem _)
 have hb := hst _ ha.1 ha.2
 refine ⟨?_⟩
 rw [xs_t]
 dsimp only
 refine ⟨rfl, ?_, ?_⟩
 ·intro h1
  exact absurd (of_decide_eq_true h1) (by rw [hW]; decide)
 ·intro h2
  refine ⟨?_, ?_,⟨rfl,(show 0 ≤ at0 rows (↑i : Int) by omega),(show at0 rows (↑i : Int) < 3 by omega)⟩,⟨hse.1,hse.2,(show 0 ≤ th by omega),(show th < 3 by omega)⟩,(bad34 hW (show 0 ≤ 2 + at0 rows (↑i : Int) by omega) (show (2 : Int) + at0 rows (↑i : Int) < 34 by omega)), ?_, ?_, ?_, ?_⟩
  ·exact ⟨(by omega),(by omega)⟩
  ·exact ⟨(by omega),(by omega)⟩
  ·exact ⟨(by omega),(by rw [hW]; omega)⟩
  ·exact ⟨(by omega),(by rw [hW]; omega)⟩
  ·intro h3
   refine ⟨?_, ?_, ?_, ?_⟩
   ·exact ⟨(by omega),(by rw [hW]; omega)⟩
   ·exact ⟨(by omega),(by rw [hW]; omega)⟩
   ·intro h4
    simp only [Bool.not_eq_true',Bool.not_eq_false'] at h4
    exact absurd (h3.symm.trans h4) (by decide)
   ·intro h5
    simp only [Bool.not_eq_true',Bool.not_eq_false'] at h5
    refine ⟨(by simp only [List.length_cons,List.length_nil]; omega), ?_, ?_⟩
    ·intro h6
     rw [wN (show i < 100000000 by omega)] at h6
     have h6g := of_decide_eq_true h6
     replace h6 : geB (((i + 1 : Nat) : Int)) ((rows.length : Int)) = true := h6
     first | exact deadL | exact lfB (wN (by omega)) (nf2 6 rfl) | exact deadS
    ·intro h7
     rw [wN (show i < 100000000 by omega)] at h7
     have h7g := of_decide_eq_false h7
     replace h7 : geB (((i + 1 : Nat) : Int)) ((rows.length : Int)) = false := h7
     first | exact deadL | exact lfB (wN (by omega)) (nf2 6 rfl) | exact deadS
  ·intro h8
   refine ⟨?_, ?_⟩
   ·intro h9
    simp only [Bool.not_eq_true',Bool.not_eq_false'] at h9
    refine ⟨?_, ?_⟩
    ·intro h10
     have h10g := of_decide_eq_true h10
     replace h10 : ltB ((0 : Int)) ((tk.length : Int)) = true := h10
     first | exact deadL | exact lfB rfl (nf2 6 rfl) | exact deadS
    ·intro h11
     have h11g := of_decide_eq_false h11
     replace h11 : ltB ((0 : Int)) ((tk.length : Int)) = false := h11
     first | exact deadL | exact lfB rfl (nf2 6 rfl) | exact deadS
   ·intro h12
    simp only [Bool.not_eq_true',Bool.not_eq_false'] at h12
    exact absurd (h8.symm.trans h12) (by decide)
theorem xs_o (st : XM → XM) (I : XM → Prop) : Go.Sy.Tree.holds (vcX (xStepD st I 62) ⟨code,th,c,1,4,7,i,at_,row,seen,val,value,cause,stamp,made,1,0,bse,bsp,true,rs,ws,asked,rows,tk,W,steps,lk,
 la,lv,ls,ld,1,0,bse,bsp⟩ (hpF o 0 60)) = ( (fun (u0 : XM) => sizeD.pre (mp1,()) ∧ (decide ((↑W.length : Int) < 34) = true → Lf (qN st u0) (dsF o 59 51) 1 th c (1 : Int) 4 7 (↑i : Int) at_
 row seen val value cause stamp made (1 : Int) 0 bse bsp true rs ws asked rows tk W steps lk la lv ls ld) ∧ (decide ((↑W.length : Int) < 34) = false → mayD.pre (mp1,()) ∧ sizeD.pre (mp1,()) ∧ (decide ((↑W.length
 : Int) < 34) = true → Lf (qN st u0) (dsF o 59 51) 0 th c (1 : Int) 4 7 (↑i : Int) at_ row seen val value cause stamp made (1 : Int) 0 bse bsp true rs ws asked rows tk W steps lk la lv ls
 ld) ∧ (decide ((↑W.length : Int) < 34) = false → clockD.pre (mp1,()) ∧ badD.pre (Mw.mk W,(0 : Int),()) ∧ ((0 : Int) ≤ 0 ∧ 0 < (↑W.length : Int)) ∧ ((0 : Int) ≤ 0 ∧ 0 < (↑W.length : Int)) ∧ ((0 : Int) ≤
 0 ∧ 0 < (↑W.length : Int)) ∧ ((0 : Int) ≤ 0 ∧ 0 < (↑W.length : Int)) ∧ (decide (i64.wrap (at0 W (0 : Int) + 1) > 1000) = true → (decide ((0 : Int) < (↑tk.length : Int)) = true → Lf (qN st u0) (dsF
 o 59 51) 0 th c (3 : Int) 5 0 0 at_ row seen val value (5 : Int) stamp (0 : Int) 1 9 bse (i64.wrap (at0 W (0 : Int) + 1)) true rs ws asked rows tk (W.set (0 : Nat)
 (i64.wrap (at0 W (0 : Int) + 1))) (i64.wrap (steps + 1)) 4 0 1 (at0 W (0 : Int)) true) ∧ (decide ((0 : Int) < (↑tk.length : Int)) = false → Lf (qN st u0) (dsF o 59 51) 0 th
 c (3 : Int) 5 0 0 at_ row seen val value (5 : Int) stamp (0 : Int) 1 9 bse (i64.wrap (at0 W (0 : Int) + 1)) true rs ws asked rows tk (W.set (0 : Nat) (i64.wrap (at0
 W (0 : Int) + 1))) (i64.wrap (steps + 1)) 4 0 1 (at0 W (0 : Int)) true)) ∧ (decide (i64.wrap (at0 W (0 : Int) + 1) > 1000) = false → (decide ((0 : Int) < (↑rs.length : Int)) = true
 → ((!i64.wrap (at0 W (0 : Int) + 1) == i64.wrap (stamp + 1)) = true → Lf (qN st u0) (dsF o 59 51) 0 th c (1 : Int) 4 8 0 at_ row seen val value cause stamp
 (i64.wrap (at0 W (0 : Int) + 1)) 1 9 bse (i64.wrap (at0 W (0 : Int) + 1)) true rs ws asked rows tk (W.set (0 : Nat) (i64.wrap (at0 W (0 : Int) + 1))) (i64.wrap (steps + 1))
 4 0 1 (at0 W (0 : Int)) true) ∧ ((!i64.wrap (at0 W (0 : Int) + 1) == i64.wrap (stamp + 1)) = false → (decide ((0 : Int) < (↑ws.length : Int)) = true → Lf (qN st u0) (dsF o 59 51)
 0 th c (2 : Int) 4 9 0 at_ row seen val value cause stamp (i64.wrap (at0 W (0 : Int) + 1)) 1 9 bse (i64.wrap (at0 W (0 : Int) + 1)) true rs ws asked rows tk
 (W.set (0 : Nat) (i64.wrap (at0 W (0 : Int) + 1))) (i64.wrap (steps + 1)) 4 0 1 (at0 W (0 : Int)) true) ∧ (decide ((0 : Int) < (↑ws.length : Int)) = false → (decide ((0 : Int) ≥
 (↑rows.length : Int)) = true → Lf (qN st u0) (dsF o 59 51) 0 th c (2 : Int) 4 11 0 at_ row seen val value cause stamp (i64.wrap (at0 W (0 : Int) + 1)) 1 9 bse
 (i64.wrap (at0 W (0 : Int) + 1)) true rs ws asked rows tk (W.set (0 : Nat) (i64.wrap (at0 W (0 : Int) + 1))) (i64.wrap (steps + 1)) 4 0 1 (at0 W (0 : Int)) true) ∧ (decide
 ((0 : Int) ≥ (↑rows.length : Int)) = false → Lf (qN st u0) (dsF o 59 51) 0 th c (2 : Int) 4 10 0 at_ row seen val value cause stamp (i64.wrap (at0 W (0 : Int) + 1)) 1 9 bse (i64.wrap (at0 W (0 : Int) + 1)) true rs ws asked rows tk (W.set (0 : Nat) (i64.wrap (at0 W (0 : Int) + 1))) (i64.wrap (steps + 1)) 4 0 1 (at0 W (0 : Int))
 true)))) ∧ (decide ((0 : Int) < (↑rs.length : Int)) = false → (decide ((0 : Int) < (↑ws.length : Int)) = true → Lf (qN st u0) (dsF o 59 51) 0 th c (2 : Int) 4 9 0 at_ row seen val value
 cause stamp (i64.wrap (at0 W (0 : Int) + 1)) 1 9 bse (i64.wrap (at0 W (0 : Int) + 1)) true rs ws asked rows tk (W.set (0 : Nat) (i64.wrap (at0 W (0 : Int) + 1))) (i64.wrap
 (steps + 1)) 4 0 1 (at0 W (0 : Int)) true) ∧ (decide ((0 : Int) < (↑ws.length : Int)) = false → (decide ((0 : Int) ≥ (↑rows.length : Int)) = true → Lf (qN st u0) (dsF o 59 51) 0 th c (2 :
 Int) 4 11 0 at_ row seen val value cause stamp (i64.wrap (at0 W (0 : Int) + 1)) 1 9 bse (i64.wrap (at0 W (0 : Int) + 1)) true rs ws asked rows tk (W.set (0 : Nat)
 (i64.wrap (at0 W (0 : Int) + 1))) (i64.wrap (steps + 1)) 4 0 1 (at0 W (0 : Int)) true) ∧ (decide ((0 : Int) ≥ (↑rows.length : Int)) = false → Lf (qN st u0) (dsF o 59 51) 0
 th c (2 : Int) 4 10 0 at_ row seen val value cause stamp (i64.wrap (at0 W (0 : Int) + 1)) 1 9 bse (i64.wrap (at0 W (0 : Int) + 1)) true rs ws asked rows tk (W.set
 0 (i64.wrap (at0 W (0 : Int) + 1))) (i64.wrap (steps + 1)) 4 0 1 (at0 W (0 : Int)) true))))))) (XM.mk code th c (1 : Int) 4 7 i at_ row seen val value cause
 stamp made (1 : Int) 0 bse bsp true rs ws asked rows tk W steps lk la lv ls ld (1 : Int) 0 bse bsp)) := by kernel_rfl
theorem xs_o_ok (I : XM → Prop) (hW : W.length = 34) (hws : 0 < ws.length) (hw9 : ws.length ≤ 9) : Paid (vcX (xStepD stepX I 62) ⟨code,th,c,1,4,7,i,at_,row,seen,val,value,cause,stamp,made,1,0,bse,bsp,true,rs,ws,asked,rows,tk,W,steps,lk,la,lv,ls,ld,1,0,bse,bsp⟩ (hpF o 0 60)) := by
 refine ⟨?_⟩
 rw [xs_o]
 dsimp only
 refine ⟨rfl, ?_, ?_⟩
 ·intro h1
  exact absurd (of_decide_eq_true h1) (by rw [hW]; decide)
 ·intro h2
  refine ⟨rfl,rfl, ?_, ?_⟩
  ·intro h3
   exact absurd (of_decide_eq_true h3) (by rw [hW]; decide)
  ·intro h4
   refine ⟨rfl,(bad34 hW (show 0 ≤ 0 by omega) (show (0 : Int) < 34 by omega)), ?_, ?_, ?_, ?_, ?_, ?_⟩
   ·exact ⟨(by omega),(by rw [hW]; omega)⟩
   ·exact ⟨(by omega),(by rw [hW]; omega)⟩
   ·exact ⟨(by omega),(by rw [hW]; omega)⟩
   ·exact ⟨(by omega),(by rw [hW]; omega)⟩
   ·intro h5
    have h5g := of_decide_eq_true h5
    replace h5 : gtB (i64.wrap (at0 W (0 : Int) + 1)) ((1000 : Int)) = true := h5
    refine ⟨?_, ?_⟩
    ·intro h6
     have h6g := of_decide_eq_true h6
     replace h6 : ltB ((0 : Int)) ((tk.length : Int)) = true := h6
     first | exact deadL | exact lfB rfl (nf2 7 rfl) | exact deadS
    ·intro h7
     have h7g := of_decide_eq_false h7
     replace h7 : ltB ((0 : Int)) ((tk.length : Int)) = false := h7
     first | exact deadL | exact lfB rfl (nf2 7 rfl) | exact deadS
   ·intro h8
    have h8g := of_decide_eq_false h8
    replace h8 : gtB (i64.wrap (at0 W (0 : Int) + 1)) ((1000 : Int)) = false := h8
    refine ⟨?_, ?_⟩
    ·intro h9
     have h9g := of_decide_eq_true h9
     replace h9 : ltB ((0 : Int)) ((rs.length : Int)) = true := h9
     refine ⟨?_, ?_⟩
     ·intro h10
      simp only [Bool.not_eq_true',Bool.not_eq_false'] at h10
      first | exact deadL | exact lfB rfl (nf2 7 rfl) | exact deadS
     ·intro h11
      simp only [Bool.not_eq_true',Bool.not_eq_false'] at h11
      refine ⟨?_, ?_⟩
      ·intro h12
       have h12g := of_decide_eq_true h12
       replace h12 : ltB ((0 : Int)) ((ws.length : Int)) = true := h12
       first | exact deadL | exact lfB rfl (nf2 7 rfl) | exact deadS
      ·intro h13
       have h13g := of_decide_eq_false h13
       replace h13 : ltB ((0 : Int)) ((ws.length : Int)) = false := h13
       refine ⟨?_, ?_⟩
       ·intro h14
        have h14g := of_decide_eq_true h14
        replace h14 : geB ((0 : Int)) ((rows.length : Int)) = true := h14
        first | exact deadL | exact lfB rfl (nf2 7 rfl) | exact deadS
       ·intro h15
        have h15g := of_decide_eq_false h15
        replace h15 : geB ((0 : Int)) ((rows.length : Int)) = false := h15
        first | exact deadL | exact lfB rfl (nf2 7 rfl) | exact deadS
    ·intro h16
     have h16g := of_decide_eq_false h16
     replace h16 : ltB ((0 : Int)) ((rs.length : Int)) = false := h16
     refine ⟨?_, ?_⟩
     ·intro h17
      have h17g := of_decide_eq_true h17
      replace h17 : ltB ((0 : Int)) ((ws.length : Int)) = true := h17
      first | exact deadL | exact lfB rfl (nf2 7 rfl) | exact deadS
     ·intro h18
      have h18g := of_decide_eq_false h18
      replace h18 : ltB ((0 : Int)) ((ws.length : Int)) = false := h18
      refine ⟨?_, ?_⟩
      ·intro h19
       have h19g := of_decide_eq_true h19
       replace h19 : geB ((0 : Int)) ((rows.length : Int)) = true := h19
       first | exact deadL | exact lfB rfl (nf2 7 rfl) | exact deadS
      ·intro h20
       have h20g := of_decide_eq_false h20
       replace h20 : geB ((0 : Int)) ((rows.length : Int)) = false := h20
       first | exact deadL | exact lfB rfl (nf2 7 rfl) | exact deadS
theorem xs_j (st : XM → XM) (I : XM → Prop) : Go.Sy.Tree.holds (vcX (xStepD st I 62) ⟨code,th,c,1,4,7,i,at_,row,seen,val,value,cause,stamp,made,2,0,bse,bsp,true,rs,ws,asked,rows,tk,W,steps,lk,
 la,lv,ls,ld,2,0,bse,bsp⟩ (hpF o 0 60)) = ( sizeD.pre (mp1,()) ∧
 (decide ((↑W.length : Int) < 34) = true → Lf (qN st (XM.mk code th c (1 : Int) 4 7 i at_ row seen val value cause stamp made (2 : Int) 0 bse bsp true rs ws asked rows tk W steps lk la lv ls ld (2
 : Int) 0 bse bsp)) (dsF o 59 51) 1 th c (1 : Int) 4 7 (↑i : Int) at_ row seen
 val value cause stamp made (2 : Int) 0 bse bsp true rs ws asked rows tk W steps lk la lv ls ld) ∧ (decide ((↑W.length : Int) < 34) = false → mayD.pre (mp1,()) ∧ sizeD.pre (mp1,()) ∧ (decide ((↑W.length : Int) <
 34) = true → Lf (qN st (XM.mk code th c (1 : Int) 4 7 i at_ row seen val value cause stamp made (2 : Int) 0 bse bsp true rs ws asked rows tk W steps lk la lv ls ld (2 : Int) 0 bse bsp))
 (dsF o 59 51) 0 th c (1 : Int) 4 7 (↑i : Int) at_ row seen val value cause stamp made
 2 0 bse bsp true rs ws asked rows tk W steps lk la lv ls ld) ∧ (decide ((↑W.length : Int) < 34) = false → clockD.pre (mp1,()) ∧ badD.pre (Mw.mk W,(0 : Int),()) ∧ ((0 : Int) ≤ 0 ∧ 0 < (↑W.length
 : Int)) ∧ ((0 : Int) ≤ 0 ∧ 0 < (↑W.length : Int)) ∧ Lf (qN st (XM.mk code th c (1 : Int) 4 7 i at_ row seen val value cause stamp made (2 : Int) 0 bse bsp true rs ws asked rows tk W steps
 lk la lv ls ld (2 : Int) 0 bse bsp)) (dsF o 59 51) 0 th c (1 : Int) 4 7 (↑i :
 Int) at_ row seen val value cause stamp made (2 : Int) 1 (at0 W (0 : Int)) bsp true rs ws asked rows tk W (i64.wrap (steps + 1)) 1 0 (at0 W (0 : Int)) (at0 W (0 : Int)) true))) := by
 kernel_rfl
theorem xs_j_ok (I : XM → Prop) (hW : W.length = 34) : Paid (vcX (xStepD stepX I 62) ⟨code,th,c,1,4,7,i,at_,row,seen,val,value,cause,stamp,made,2,0,bse,bsp,true,rs,ws,asked,rows,tk,W,steps,lk,la,lv,ls,ld,2,0,bse,bsp⟩ (hpF o 0 60)) := by
 refine ⟨?_⟩
 rw [xs_j]
 refine ⟨rfl, ?_, ?_⟩
 ·intro h1
  exact absurd (of_decide_eq_true h1) (by rw [hW]; decide)
 ·intro h2
  refine ⟨rfl,rfl, ?_, ?_⟩
  ·intro h3
   exact absurd (of_decide_eq_true h3) (by rw [hW]; decide)
  ·intro h4
   refine ⟨rfl,(bad34 hW (show 0 ≤ 0 by omega) (show (0 : Int) < 34 by omega)), ?_, ?_, ?_⟩
   ·exact ⟨(by omega),(by rw [hW]; omega)⟩
   ·exact ⟨(by omega),(by rw [hW]; omega)⟩
   ·first | exact deadL | exact lfB rfl (nf2 7 rfl) | exact deadS
end Go.Proofs.Ytmjjljngaefpaaa

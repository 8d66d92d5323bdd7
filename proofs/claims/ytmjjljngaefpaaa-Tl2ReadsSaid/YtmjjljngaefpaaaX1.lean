/- Tl2Two: a step of the program's attempt, from each of its states. -/
import Derived.Test.YtmjjljngaefpaaaXs
namespace Go.Proofs.Ytmjjljngaefpaaa
open Go.RowKit Go.Am Go.Sy
open Go.IntKind (i64 u64)
set_option linter.unusedVariables false
set_option linter.unusedSimpArgs false
variable (code th c part : Int) (i : Nat) (at_ row seen val value cause stamp made bk bst bse bsp : Int) (ph ld : Bool) (rs ws tk : List Wo) (rows W : List Int) (asked steps lk la lv ls ybk ybst ybse ybsp : Int)
variable (o : Nat → Option Ob)
theorem xs_l (st : XM → XM) (I : XM → Prop) : Go.Sy.Tree.holds (vcX (xStepD st I 62) ⟨code,th,c,1,4,5,i,at_,row,seen,val,value,cause,stamp,made,bk,bst,bse,bsp,true,rs,ws,asked,rows,tk,W,steps,
 lk,la,lv,ls,ld,ybk,ybst,ybse,ybsp⟩ (hpF o 0 60)) = ( (fun (u0 : XM) => sizeD.pre (mp1,()) ∧ (decide ((↑W.length : Int) < 34) = true → Lf (qN st u0) (dsF o 59 51) 1 th c (1 : Int) 4 5 (↑i
 : Int) at_ row seen val value cause stamp made bk bst bse bsp true rs ws asked rows tk W steps lk la lv ls ld) ∧ (decide ((↑W.length : Int) < 34) = false → ((0 : Int) ≤ (↑i : Int) ∧ (↑i : Int) < (↑rows.length : Int)) ∧
 ((0 : Int) ≤ (↑i : Int) ∧ (↑i : Int) < (↑rows.length : Int)) ∧ stripeD.pre (mp1,at0 rows (↑i : Int),()) ∧ badD.pre (Mw.mk W,2 + at0 rows (↑i : Int),()) ∧ ((0 : Int) ≤ 2 + at0 rows (↑i : Int) ∧ 2 + at0
 rows (↑i : Int) < (↑W.length : Int)) ∧ ((0 : Int) ≤ 2 + at0 rows (↑i : Int) ∧ 2 + at0 rows (↑i : Int) < (↑W.length : Int)) ∧ holderD.pre (at0 W ((2 : Int) + at0 rows (↑i : Int)),()) ∧ ((!decide (at0 W ((2 : Int)
 + at0 rows (↑i : Int)) % 16 - 1 < 0)) = true → (decide ((0 : Int) < (↑tk.length : Int)) = true → Lf (qN st u0) (dsF o 59 51) 0 th c (3 : Int) 5 0 0 at_ row (at0 W ((2 : Int) + at0
 rows (↑i : Int))) val value (1 : Int) stamp (0 : Int) bk bst bse bsp true rs ws asked rows tk W (i64.wrap (steps + 1)) 1 ((2 : Int) + at0 rows (↑i : Int)) (at0 W ((2 : Int) + at0 rows (↑i : Int))) (at0 W
 ((2 : Int) + at0 rows (↑i : Int))) true) ∧ (decide ((0 : Int) < (↑tk.length : Int)) = false → Lf (qN st u0) (dsF o 59 51) 0 th c (3 : Int) 5 0 0 at_ row (at0 W ((2 : Int) + at0 rows (↑i :
 Int))) val value (1 : Int) stamp (0 : Int) bk bst bse bsp true rs ws asked rows tk W (i64.wrap (steps + 1)) 1 ((2 : Int) + at0 rows (↑i : Int)) (at0 W ((2 : Int) + at0 rows (↑i : Int))) (at0 W ((2 : Int)
 + at0 rows (↑i : Int))) true)) ∧ ((!decide (at0 W ((2 : Int) + at0 rows (↑i : Int)) % 16 - 1 < 0)) = false → Lf (qN st u0) (dsF o 59 51) 0 th c (1 : Int) 4 6 (↑i : Int) at_ row (at0 W ((2
 : Int) + at0 rows (↑i : Int))) val value cause stamp made bk bst bse bsp true rs ws asked rows tk W (i64.wrap (steps + 1)) 1 ((2 : Int) + at0 rows (↑i : Int)) (at0 W ((2 : Int) + at0 rows (↑i : Int)))
 (at0 W ((2 : Int) + at0 rows (↑i : Int))) true))) (XM.mk code th c (1 : Int) 4 5 i at_ row seen val value cause stamp made bk bst bse bsp true rs ws asked rows tk W steps lk la lv ls ld ybk ybst ybse
 ybsp)) := by kernel_rfl
theorem xs_l_ok (I : XM → Prop) (hW : W.length = 34) (hst : ∀ r : Int,0 ≤ r → r < 3 → 0 ≤ at0 W (2 + r) ∧ at0 W (2 + r) < 1099511627776) (hi : i < rows.length) (hrr : ∀ r ∈ rows,0 ≤ r ∧ r < 3) (hro : rows.length ≤ 3) : Paid (vcX (xStepD stepX I 62) ⟨code,th,c,1,4,5,i,at_,row,seen,val,value,cause,stamp,made,bk,bst,bse,bsp,true,rs,ws,asked,rows,tk,W,steps,lk,la,lv,ls,ld,ybk,ybst,ybse,ybsp⟩ (hpF o 0 60)) := by
 have ha : 0 ≤ at0 rows (i : Int) ∧ at0 rows (i : Int) < 3 := by rw [at0_get hi]; exact hrr _ (List.getElem_mem _)
 have hb := hst _ ha.1 ha.2
 refine ⟨?_⟩
 rw [xs_l]
 dsimp only
 refine ⟨rfl, ?_, ?_⟩
 ·intro h1
  exact absurd (of_decide_eq_true h1) (by rw [hW]; decide)
 ·intro h2
  refine ⟨?_, ?_,⟨rfl,(show 0 ≤ at0 rows (↑i : Int) by omega),(show at0 rows (↑i : Int) < 3 by omega)⟩,(bad34 hW (show 0 ≤ 2 + at0 rows (↑i : Int) by omega) (show (2 : Int) + at0 rows (↑i : Int) < 34 by omega)), ?_, ?_,hb, ?_, ?_⟩
  ·exact ⟨(by omega),(by omega)⟩
  ·exact ⟨(by omega),(by omega)⟩
  ·exact ⟨(by omega),(by rw [hW]; omega)⟩
  ·exact ⟨(by omega),(by rw [hW]; omega)⟩
  ·intro h3
   simp only [Bool.not_eq_true',Bool.not_eq_false'] at h3
   replace h3 : ltB (at0 W ((2 : Int) + at0 rows (i : Int)) % 16 - 1) ((0 : Int)) = false := h3
   refine ⟨?_, ?_⟩
   ·intro h4
    have h4g := of_decide_eq_true h4
    replace h4 : ltB ((0 : Int)) ((tk.length : Int)) = true := h4
    first | exact deadL | exact lfB rfl (nf2 5 rfl) | exact deadS
   ·intro h5
    have h5g := of_decide_eq_false h5
    replace h5 : ltB ((0 : Int)) ((tk.length : Int)) = false := h5
    first | exact deadL | exact lfB rfl (nf2 5 rfl) | exact deadS
  ·intro h6
   simp only [Bool.not_eq_true',Bool.not_eq_false'] at h6
   replace h6 : ltB (at0 W ((2 : Int) + at0 rows (i : Int)) % 16 - 1) ((0 : Int)) = true := h6
   first | exact deadL | exact lfB rfl (nf2 5 rfl) | exact deadS
end Go.Proofs.Ytmjjljngaefpaaa

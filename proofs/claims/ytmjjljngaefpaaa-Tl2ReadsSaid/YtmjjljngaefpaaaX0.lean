/- Tl2Two: a step of the program's attempt, from each of its states. -/
import Derived.Test.YtmjjljngaefpaaaXs
namespace Go.Proofs.Ytmjjljngaefpaaa
open Go.RowKit Go.Am Go.Sy
open Go.IntKind (i64 u64)
set_option linter.unusedVariables false
set_option linter.unusedSimpArgs false
variable (code th c part : Int) (i : Nat) (at_ row seen val value cause stamp made bk bst bse bsp : Int) (ph ld : Bool) (rs ws tk : List Wo) (rows W : List Int) (asked steps lk la lv ls ybk ybst ybse ybsp : Int)
variable (o : Nat → Option Ob)
theorem xs_b (st : XM → XM) (I : XM → Prop) : Go.Sy.Tree.holds (vcX (xStepD st I 62) ⟨code,th,c,1,1,part,i,at_,row,seen,val,value,cause,stamp,made,bk,bst,bse,bsp,false,rs,ws,asked,rows,tk,W,
 steps,lk,la,lv,ls,ld,ybk,ybst,ybse,ybsp⟩ (hpF o 0 60)) = (
 sizeD.pre (mp1,()) ∧ (decide ((↑W.length : Int) < 34) = true → Lf (qN st (XM.mk code th c (1 : Int) 1 part i at_ row seen val value cause stamp made bk bst bse bsp false rs ws asked rows tk W steps lk la lv ls
 ld ybk ybst ybse ybsp)) (dsF o 59 51) 1 th c (1 : Int) 1 part (↑i : Int) at_ row seen val
 value cause stamp made bk bst bse bsp false rs ws asked rows tk W steps lk la lv ls ld) ∧ (decide ((↑W.length : Int) < 34) = false → clockD.pre (mp1,()) ∧ badD.pre (Mw.mk W,(0 : Int),()) ∧ ((0 : Int) ≤ 0 ∧ 0 <
 (↑W.length : Int)) ∧ ((0 : Int) ≤ 0 ∧ 0 < (↑W.length : Int)) ∧ Lf (qN st (XM.mk code th c (1 : Int) 1 part i at_ row seen val value cause stamp made bk bst bse bsp false rs ws asked rows tk W steps lk la
 lv ls ld ybk ybst ybse ybsp)) (dsF o 59 51) 1 th c (1 : Int) 0 part (↑i : Int) at_ row seen
 val value cause (at0 W (0 : Int)) made bk bst bse bsp false rs ws asked rows tk W (i64.wrap (steps + 1)) 1 0 (at0 W (0 : Int)) (at0 W (0 : Int)) true)) := by kernel_rfl
theorem xs_b_ok (I : XM → Prop) (hW : W.length = 34) : Paid (vcX (xStepD stepX I 62) ⟨code,th,c,1,1,part,i,at_,row,seen,val,value,cause,stamp,made,bk,bst,bse,bsp,false,rs,ws,asked,rows,tk,W,steps,lk,la,lv,ls,ld,ybk,ybst,ybse,ybsp⟩ (hpF o 0 60)) := by
 refine ⟨?_⟩
 rw [xs_b]
 refine ⟨rfl, ?_, ?_⟩
 ·intro h1
  exact absurd (of_decide_eq_true h1) (by rw [hW]; decide)
 ·intro h2
  refine ⟨rfl,(bad34 hW (show 0 ≤ 0 by omega) (show (0 : Int) < 34 by omega)), ?_, ?_, ?_⟩
  ·exact ⟨(by omega),(by rw [hW]; omega)⟩
  ·exact ⟨(by omega),(by rw [hW]; omega)⟩
  ·first | exact deadL | exact lfB rfl (nf1 1 rfl) | exact deadS
theorem xs_r0 (st : XM → XM) (I : XM → Prop) : Go.Sy.Tree.holds (vcX (xStepD st I 62) ⟨code,th,c,1,2,0,i,at_,row,seen,val,value,cause,stamp,made,bk,bst,bse,bsp,false,rs,ws,asked,rows,tk,W,steps,
 lk,la,lv,ls,ld,ybk,ybst,ybse,ybsp⟩ (hpF o 0 60)) = ( (fun (u0 : XM) => sizeD.pre (mp1,()) ∧ (decide ((↑W.length : Int) < 34) = true → Lf (qN st u0) (dsF o 59 51) 1 th c (1 : Int) 2 0 (↑i
 : Int) at_ row seen val value cause stamp made bk bst bse bsp false rs ws asked rows tk W steps lk la lv ls ld) ∧ (decide ((↑W.length : Int) < 34) = false → stripeD.pre (mp1,row,()) ∧ badD.pre (Mw.mk W,2 +
 row,()) ∧ ((0 : Int) ≤ 2 + row ∧ 2 + row < (↑W.length : Int)) ∧ ((0 : Int) ≤ 2 + row ∧ 2 + row < (↑W.length : Int)) ∧ freshD.pre (at0 W ((2 : Int) + row),stamp,()) ∧ ((freshT (at0 W ((2 : Int) + row))
 stamp != 0) = true → (decide ((0 : Int) < (↑tk.length : Int)) = true → Lf (qN st u0) (dsF o 59 51) 0 th c (3 : Int) 5 0 0 at_ row (at0 W ((2 : Int) + row)) val value (freshT (at0 W ((2 :
 Int) + row)) stamp) stamp (0 : Int) bk bst bse bsp false rs ws asked rows tk W (i64.wrap (steps + 1)) 1 ((2 : Int) + row) (at0 W ((2 : Int) + row)) (at0 W ((2 : Int) + row)) true) ∧ (decide ((0 : Int) <
 (↑tk.length : Int)) = false → Lf (qN st u0) (dsF o 59 51) 2 th c (3 : Int) 0 0 0 at_ row (at0 W ((2 : Int) + row)) val value (freshT (at0 W ((2 : Int) + row)) stamp) stamp (0 : Int) bk bst
 bse bsp false rs ws asked rows tk W (i64.wrap (steps + 1)) 1 ((2 : Int) + row) (at0 W ((2 : Int) + row)) (at0 W ((2 : Int) + row)) true)) ∧ ((freshT (at0 W ((2 : Int) + row)) stamp != 0) = false → Lf (qN
 st u0) (dsF o 59 51) 0 th c (1 : Int) 2 1 (↑i : Int) at_ row (at0 W ((2 : Int) + row)) val value cause stamp made bk bst bse bsp false rs ws asked rows tk W (i64.wrap (steps + 1)) 1 ((2 : Int) + row) (at0 W ((2 : Int) + row)) (at0 W ((2 : Int) + row)) true))) (XM.mk code th c (1 : Int) 2 0 i at_ row seen val value cause stamp made bk bst bse bsp false rs ws asked rows tk W steps
 lk la lv ls ld ybk ybst ybse ybsp)) := by kernel_rfl
theorem xs_r0_ok (I : XM → Prop) (hW : W.length = 34) (hst : ∀ r : Int,0 ≤ r → r < 3 → 0 ≤ at0 W (2 + r) ∧ at0 W (2 + r) < 1099511627776) (hrow : 0 ≤ row ∧ row < 3) (htk : tk = []) : Paid (vcX (xStepD stepX I 62) ⟨code,th,c,1,2,0,i,at_,row,seen,val,value,cause,stamp,made,bk,bst,bse,bsp,false,rs,ws,asked,rows,tk,W,steps,lk,la,lv,ls,ld,ybk,ybst,ybse,ybsp⟩ (hpF o 0 60)) := by
 have hb := hst _ hrow.1 hrow.2
 have htn : tk.length = 0 := by rw [htk]; rfl
 refine ⟨?_⟩
 rw [xs_r0]
 dsimp only
 refine ⟨rfl, ?_, ?_⟩
 ·intro h1
  exact absurd (of_decide_eq_true h1) (by rw [hW]; decide)
 ·intro h2
  refine ⟨⟨rfl,(show 0 ≤ row by omega),(show row < 3 by omega)⟩,(bad34 hW (show 0 ≤ 2 + row by omega) (show (2 : Int) + row < 34 by omega)), ?_, ?_,hb, ?_, ?_⟩
  ·exact ⟨(by omega),(by rw [hW]; omega)⟩
  ·exact ⟨(by omega),(by rw [hW]; omega)⟩
  ·intro h3
   refine ⟨?_, ?_⟩
   ·intro h4
    have h4g := of_decide_eq_true h4
    replace h4 : ltB ((0 : Int)) ((tk.length : Int)) = true := h4
    first | exact deadL | exact lfB rfl (nf1 2 rfl) | exact deadS
   ·intro h5
    have h5g := of_decide_eq_false h5
    replace h5 : ltB ((0 : Int)) ((tk.length : Int)) = false := h5
    first | exact deadL | exact lfB rfl (nf1 2 rfl) | exact deadS
  ·intro h6
   first | exact deadL | exact lfB rfl (nf1 2 rfl) | exact deadS
theorem xs_r1 (st : XM → XM) (I : XM → Prop) : Go.Sy.Tree.holds (vcX (xStepD st I 62) ⟨code,th,c,1,2,1,i,at_,row,seen,val,value,cause,stamp,made,bk,bst,bse,bsp,false,rs,ws,asked,rows,tk,W,steps,
 lk,la,lv,ls,ld,ybk,ybst,ybse,ybsp⟩ (hpF o 0 60)) = ( sizeD.pre
 (mp1,()) ∧ (decide ((↑W.length : Int) < 34) = true → Lf (qN st (XM.mk code th c (1 : Int) 2 1 i at_ row seen val value cause stamp made bk bst bse bsp false rs ws asked rows tk W steps lk la lv ls ld ybk
 ybst ybse ybsp)) (dsF o 59 51) 1 th c (1 : Int) 2 1 (↑i : Int) at_ row seen val value
 cause stamp made bk bst bse bsp false rs ws asked rows tk W steps lk la lv ls ld) ∧ (decide ((↑W.length : Int) < 34) = false → stripeD.pre (mp1,row,()) ∧ badD.pre (Mw.mk W,at_,()) ∧ ((0 : Int) ≤ at_ ∧ at_ <
 (↑W.length : Int)) ∧ ((0 : Int) ≤ at_ ∧ at_ < (↑W.length : Int)) ∧ Lf (qN st (XM.mk code th c (1 : Int) 2 1 i at_ row seen val value cause stamp made bk bst bse bsp false rs ws asked rows tk W steps lk la
 lv ls ld ybk ybst ybse ybsp)) (dsF o 59 51) 0 th c (1 : Int) 2 2 (↑i : Int) at_ row
 seen (at0 W at_) value cause stamp made bk bst bse bsp false rs ws asked rows tk W (i64.wrap (steps + 1)) 1 at_ (at0 W at_) (at0 W at_) true)) := by kernel_rfl
theorem xs_r1_ok (I : XM → Prop) (hW : W.length = 34) (hat : 0 ≤ at_ ∧ at_ < 34) (hrow : 0 ≤ row ∧ row < 3) : Paid (vcX (xStepD stepX I 62) ⟨code,th,c,1,2,1,i,at_,row,seen,val,value,cause,stamp,made,bk,bst,bse,bsp,false,rs,ws,asked,rows,tk,W,steps,lk,la,lv,ls,ld,ybk,ybst,ybse,ybsp⟩ (hpF o 0 60)) := by
 refine ⟨?_⟩
 rw [xs_r1]
 refine ⟨rfl, ?_, ?_⟩
 ·intro h1
  exact absurd (of_decide_eq_true h1) (by rw [hW]; decide)
 ·intro h2
  refine ⟨⟨rfl,(show 0 ≤ row by omega),(show row < 3 by omega)⟩,(bad34 hW (show 0 ≤ at_ by omega) (show at_ < 34 by omega)), ?_, ?_, ?_⟩
  ·exact ⟨(by omega),(by rw [hW]; omega)⟩
  ·exact ⟨(by omega),(by rw [hW]; omega)⟩
  ·first | exact deadL | exact lfB rfl (nf1 2 rfl) | exact deadS
theorem xs_r2 (st : XM → XM) (I : XM → Prop) : Go.Sy.Tree.holds (vcX (xStepD st I 62) ⟨code,th,c,1,2,2,i,at_,row,seen,val,value,cause,stamp,made,bk,bst,bse,bsp,false,rs,ws,asked,rows,tk,W,steps,
 lk,la,lv,ls,ld,ybk,ybst,ybse,ybsp⟩ (hpF o 0 60)) = ( sizeD.pre
 (mp1,()) ∧ (decide ((↑W.length : Int) < 34) = true → Lf (qN st (XM.mk code th c (1 : Int) 2 2 i at_ row seen val value cause stamp made bk bst bse bsp false rs ws asked rows tk W steps lk la lv ls ld ybk
 ybst ybse ybsp)) (dsF o 59 51) 1 th c (1 : Int) 2 2 (↑i : Int) at_ row seen val value
 cause stamp made bk bst bse bsp false rs ws asked rows tk W steps lk la lv ls ld) ∧ (decide ((↑W.length : Int) < 34) = false → stripeD.pre (mp1,row,()) ∧ badD.pre (Mw.mk W,2 + row,()) ∧ ((0 : Int) ≤ 2 + row ∧
 2 + row < (↑W.length : Int)) ∧ ((0 : Int) ≤ 2 + row ∧ 2 + row < (↑W.length : Int)) ∧ ((at0 W ((2 : Int) + row) != seen) = true → (decide ((0 : Int) < (↑tk.length : Int)) = true → Lf (qN st (XM.mk code th
 c (1 : Int) 2 2 i at_ row seen val value cause stamp made bk bst bse bsp false rs ws asked rows tk W steps lk la lv ls ld ybk ybst ybse ybsp)) (dsF o 59 51) 0 th c (3 : Int) 5 0 0 at_ row seen val value (2 : Int) stamp (0 : Int) bk bst bse bsp false rs ws asked rows tk W
 (i64.wrap (steps + 1)) 1 ((2 : Int) + row) (at0 W ((2 : Int) + row)) (at0 W ((2 : Int) + row)) true) ∧ (decide ((0 : Int) < (↑tk.length : Int)) = false → Lf (qN st (XM.mk code th c (1 : Int) 2 2 i at_ row seen val value cause stamp made bk bst bse bsp false rs ws asked rows tk W steps lk la lv ls ld ybk ybst ybse ybsp)) (dsF o 59 51) 2 th c (3 : Int) 0 0 0 at_ row seen val value (2 : Int) stamp (0 : Int) bk bst bse bsp false rs ws asked rows tk W (i64.wrap (steps + 1)) 1 ((2 : Int) + row) (at0 W ((2 : Int) + row)) (at0 W ((2 : Int) + row)) true)) ∧ ((at0 W ((2 : Int) + row) != seen) = false → (decide ((↑i : Int) < 0) = true → Lf (qN st (XM.mk code th c (1 : Int) 2 2 i at_ row seen val value cause stamp made bk bst bse bsp false rs ws asked rows tk W steps lk la lv ls ld ybk ybst ybse ybsp)) (dsF o 59 51) 0 th c (1 : Int) 2 3 (↑i : Int) at_ row seen val value cause stamp made bk bst bse bsp false rs ws asked rows tk W (i64.wrap (steps + 1)) 1
 ((2 : Int) + row) (at0 W ((2 : Int) + row)) (at0 W ((2 : Int) + row)) true) ∧ (decide ((↑i : Int) < 0) = false → roomD.pre (Rs.mk (32 : Int) rs,row,()) ∧ hasD.pre (Rs.mk (32 : Int) rs,row,()) ∧ ((!hasB (Rs.mk (32 :
 Int) rs).ls row) = true → (rs.length + [Wo.mk row (0 : Int)].length) * 16 ≤ 140737488355328 ∧ Lf (qN st (XM.mk code th c (1 : Int) 2 2 i at_ row seen val value cause stamp made bk bst bse bsp false rs ws
 asked rows tk W steps lk la lv ls ld ybk ybst ybse ybsp)) (dsF o 59 51) 1 th c (1 : Int) 0 3 (↑i : Int) at_ row seen val val cause stamp made bk bst bse bsp false (rs ++ [Wo.mk row (0 : Int)]) ws asked rows tk W (i64.wrap (steps + 1)) 1 ((2 : Int) + row) (at0 W ((2 : Int) + row)) (at0 W
 ((2 : Int) + row)) true) ∧ ((!hasB (Rs.mk (32 : Int) rs).ls row) = false → Lf (qN st (XM.mk code th c (1 : Int) 2 2 i at_ row seen val value cause stamp made bk bst bse bsp false rs ws asked rows tk W
 steps lk la lv ls ld ybk ybst ybse ybsp)) (dsF o 59 51) 1 th c (1 : Int) 0 3 (↑i :
 Int) at_ row seen val val cause stamp made bk bst bse bsp false rs ws asked rows tk W (i64.wrap (steps + 1)) 1 ((2 : Int) + row) (at0 W ((2 : Int) + row)) (at0 W ((2 : Int) + row)) true))))) := by
 kernel_rfl
theorem xs_r2_ok (I : XM → Prop) (hW : W.length = 34) (hrow : 0 ≤ row ∧ row < 3) (htk : tk = []) (hrs : rs.length ≤ 9) : Paid (vcX (xStepD stepX I 62) ⟨code,th,c,1,2,2,i,at_,row,seen,val,value,cause,stamp,made,bk,bst,bse,bsp,false,rs,ws,asked,rows,tk,W,steps,lk,la,lv,ls,ld,ybk,ybst,ybse,ybsp⟩ (hpF o 0 60)) := by
 have htn : tk.length = 0 := by rw [htk]; rfl
 refine ⟨?_⟩
 rw [xs_r2]
 refine ⟨rfl, ?_, ?_⟩
 ·intro h1
  exact absurd (of_decide_eq_true h1) (by rw [hW]; decide)
 ·intro h2
  refine ⟨⟨rfl,(show 0 ≤ row by omega),(show row < 3 by omega)⟩,(bad34 hW (show 0 ≤ 2 + row by omega) (show (2 : Int) + row < 34 by omega)), ?_, ?_, ?_, ?_⟩
  ·exact ⟨(by omega),(by rw [hW]; omega)⟩
  ·exact ⟨(by omega),(by rw [hW]; omega)⟩
  ·intro h3
   refine ⟨?_, ?_⟩
   ·intro h4
    have h4g := of_decide_eq_true h4
    replace h4 : ltB ((0 : Int)) ((tk.length : Int)) = true := h4
    first | exact deadL | exact lfB rfl (nf1 2 rfl) | exact deadS
   ·intro h5
    have h5g := of_decide_eq_false h5
    replace h5 : ltB ((0 : Int)) ((tk.length : Int)) = false := h5
    first | exact deadL | exact lfB rfl (nf1 2 rfl) | exact deadS
  ·intro h6
   refine ⟨?_, ?_⟩
   ·intro h7
    have h7g := of_decide_eq_true h7
    replace h7 : ltB ((i : Int)) ((0 : Int)) = true := h7
    first | exact deadL | exact lfB rfl (nf1 2 rfl) | exact deadS
   ·intro h8
    have h8g := of_decide_eq_false h8
    replace h8 : ltB ((i : Int)) ((0 : Int)) = false := h8
    refine ⟨⟨rfl,(show rs.length < 32 by omega)⟩,(show rs.length ≤ 1000 by omega), ?_, ?_⟩
    ·intro h9
     try dsimp only at h9
     simp only [Bool.not_eq_true',Bool.not_eq_false'] at h9
     refine ⟨(by simp only [List.length_cons,List.length_nil]; omega), ?_⟩
     first | exact deadL | exact lfB rfl (nf1 2 rfl) | exact deadS
    ·intro h10
     try dsimp only at h10
     simp only [Bool.not_eq_true',Bool.not_eq_false'] at h10
     first | exact deadL | exact lfB rfl (nf1 2 rfl) | exact deadS
end Go.Proofs.Ytmjjljngaefpaaa

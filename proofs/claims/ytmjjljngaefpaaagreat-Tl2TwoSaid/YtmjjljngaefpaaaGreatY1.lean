/- Tl2Two: a step of the reference's attempt, from each of its states. -/
import Derived.Test.YtmjjljngaefpaaaGreatYl
namespace Go.Proofs.YtmjjljngaefpaaaGreat
open Go.RowKit Go.Am Go.Sy
open Go.IntKind (i64 u64)
set_option linter.unusedVariables false
set_option linter.unusedSimpArgs false
variable (code th c part : Int) (i : Nat) (at_ row seen val value cause stamp made bk bst bse bsp : Int) (ph ld : Bool) (rs ws tk : List Wo) (rows old W : List Int) (asked steps lk la lv ls ybk ybst ybse ybsp : Int)
variable (o : Nat → Option Ob)
theorem ys_l (st : XM → XM) (I : XM → Prop) (s : XM) : Go.Sy.Tree.holds (vcY (yStepD st I 39) (s,⟨code,th,c,true,false,true,4,1,i,at_,seen,val,value,cause,stamp,made,ybk,ybst,ybse,ybsp,rs,ws,asked,
 rows,old,W,steps,lk,la,lv,ls,ld⟩) (hpF o 0 37)) =
 ( Bd 2 ((↑i : Int)) (↑rows.length : Int) (stripeD.pre (mp1,at0 rows (↑i : Int),()) ∧ inD.pre (Mw.mk W,2 + at0 rows (↑i : Int),()) ∧ Bd 6 ((2 : Int) + at0 rows (↑i : Int)) (↑W.length : Int) (holderD.pre (at0 W
 ((2 : Int) + at0 rows (↑i : Int)),()) ∧ (decide (at0 W ((2 : Int) + at0 rows (↑i : Int)) % 16 - 1 ≥ 0) = true → (((↑old.length : Int) == 0) = true → LfY (qNy st s) (dsF o 36 21 ++ dsF o 8 9) 0 th c false false true (5 : Int) 0 0 at_ (at0 W ((2 : Int) + at0 rows (↑i : Int))) val
 value (1 : Int) stamp (0 : Int) ybk ybst ybse ybsp rs ws asked rows old W (i64.wrap (steps + 1)) 1 ((2 : Int) + at0 rows (↑i : Int)) (at0 W ((2 : Int) + at0 rows (↑i : Int))) (at0 W ((2 : Int) + at0 rows
 (↑i : Int))) true) ∧ (((↑old.length : Int) == 0) = false → LfY (qNy st s) (dsF o 36 21 ++ dsF o 8 9) 0 th c false false true (5 : Int) 0 0 at_ (at0 W ((2 : Int) + at0 rows (↑i : Int))) val value (1 : Int) stamp (0 : Int) ybk ybst ybse ybsp rs ws asked rows old W (i64.wrap (steps + 1)) 1 ((2 : Int) + at0 rows (↑i : Int)) (at0 W ((2 : Int) + at0 rows (↑i : Int))) (at0 W ((2 : Int) + at0 rows (↑i : Int))) true)) ∧ (decide (at0 W ((2 : Int) + at0 rows (↑i : Int)) % 16 - 1 ≥ 0) = false →
 LfY (qNy st s) (dsF o 36 21 ++ dsF o 8 9) 0 th c true false true (4 : Int) 2 (↑i : Int)
 at_ (at0 W ((2 : Int) + at0 rows (↑i : Int))) val value cause stamp made ybk ybst ybse ybsp rs ws asked rows old W (i64.wrap (steps + 1)) 1 ((2 : Int) + at0 rows (↑i : Int)) (at0 W ((2 : Int) + at0 rows
 (↑i : Int))) (at0 W ((2 : Int) + at0 rows (↑i : Int))) true)))) := by kernel_rfl
theorem ys_l_ok (I : XM → Prop) (hW : W.length = 34) (hst : ∀ r : Int,0 ≤ r → r < 3 → 0 ≤ at0 W (2 + r) ∧ at0 W (2 + r) < 1099511627776) (hi : i < rows.length) (hrr : ∀ r ∈ rows,0 ≤ r ∧ r < 3) (hro : rows.length ≤ 3) : Paid (vcY (yStepD stepX I 39) (⟨code,th,c,1,4,5,i,at_,row,seen,val,value,cause,stamp,made,bk,bst,bse,bsp,true,rs,ws,asked,rows,tk,W,steps,lk,la,lv,ls,ld,ybk,ybst,ybse,ybsp⟩,⟨code,th,c,true,false,true,4,1,i,at_,seen,val,value,cause,stamp,made,ybk,ybst,ybse,ybsp,rs,ws,asked,rows,tk.map (·.vl),W,steps,lk,la,lv,ls,ld⟩) (hpF o 0 37)) := by
 have ha : 0 ≤ at0 rows (i : Int) ∧ at0 rows (i : Int) < 3 := by rw [at0_get hi]; exact hrr _ (List.getElem_mem _)
 have hb := hst _ ha.1 ha.2
 refine ⟨?_⟩
 rw [ys_l]
 refine bd (show 0 ≤ (↑i : Int) by omega) (by omega) ?_ 2
 refine ⟨⟨rfl,(show 0 ≤ at0 rows (↑i : Int) by omega),(show at0 rows (↑i : Int) < 3 by omega)⟩,(in34 hW (show 0 ≤ 2 + at0 rows (↑i : Int) by omega) (show (2 : Int) + at0 rows (↑i : Int) < 34 by omega)),bd (show 0 ≤ 2 + at0 rows (↑i : Int) by omega) (by rw [hW]; omega) ?_ 6⟩
 refine ⟨hb, ?_, ?_⟩
 ·intro h1
  have h1g := qb h1
  have h2 : geB (at0 W ((2 : Int) + at0 rows (↑i : Int)) % 16 - 1) (0) = true := geB_t (by omega)
  have h3 : ltB (at0 W ((2 : Int) + at0 rows (↑i : Int)) % 16 - 1) (0) = false := ltB_f (by omega)
  refine ⟨?_, ?_⟩
  ·intro h4
   rw [qh] at h4
   have h4g := eq_of_beq h4
   first | exact deadL | ((try clear h4g); exact lfyB rfl (ny2 5 rfl))
  ·intro h5
   rw [qh] at h5
   have h5g := ne_of_beq_false h5
   first | exact deadL | ((try clear h4g); exact lfyB rfl (ny2 5 rfl))
 ·intro h6
  have h6g := qc h6
  have h7 : geB (at0 W ((2 : Int) + at0 rows (↑i : Int)) % 16 - 1) (0) = false := geB_f (by omega)
  have h8 : ltB (at0 W ((2 : Int) + at0 rows (↑i : Int)) % 16 - 1) (0) = true := ltB_t (by omega)
  first | exact deadL | ((try clear h4g); exact lfyB rfl (ny2 5 rfl))
theorem ys_t (st : XM → XM) (I : XM → Prop) (s : XM) : Go.Sy.Tree.holds (vcY (yStepD st I 39) (s,⟨code,th,c,true,false,true,4,2,i,at_,seen,val,value,cause,stamp,made,ybk,ybst,ybse,ybsp,rs,ws,asked,
 rows,old,W,steps,lk,la,lv,ls,ld⟩) (hpF o 0 37)) =
 ( Bd 2 ((↑i : Int)) (↑rows.length : Int) (stripeD.pre (mp1,at0 rows (↑i : Int),()) ∧ takenD.pre (seen,th,()) ∧ inD.pre (Mw.mk W,2 + at0 rows (↑i : Int),()) ∧ Bd 2 ((2 : Int) + at0 rows (↑i : Int))
 (↑W.length : Int) (((at0 W ((2 : Int) + at0 rows (↑i : Int)) == seen) = true → Bd 2 ((2 : Int) + at0 rows (↑i : Int)) (↑W.length : Int) (((!at0 W ((2 : Int) + at0 rows (↑i : Int)) == seen) = true → (((↑old.length : Int)
 == 0) = true → LfY (qNy st s) (dsF o 36 21 ++ dsF o 8 9) 0 th c false false true (5 : Int) 0 0 at_ seen val value (1 : Int) stamp (0 : Int) ybk ybst ybse ybsp rs ws asked rows old (W.set ((2 : Int) + at0 rows (↑i : Int)).toNat (seen - seen % 16 + th + 1)) (i64.wrap (steps + 1)) 3 ((2 : Int) + at0 rows (↑i : Int)) (seen - seen % 16 + th + 1) (at0 W ((2 : Int) + at0 rows (↑i : Int))) (at0 W ((2 : Int) + at0 rows (↑i : Int)) == seen)) ∧ (((↑old.length : Int) == 0) = false → LfY (qNy st
 s) (dsF o 36 21 ++ dsF o 8 9) 0 th c false false true (5 : Int) 0 0 at_ seen val
 value (1 : Int) stamp (0 : Int) ybk ybst ybse ybsp rs ws asked rows old (W.set ((2 : Int) + at0 rows (↑i : Int)).toNat (seen - seen % 16 + th + 1)) (i64.wrap (steps + 1)) 3 ((2 : Int) + at0 rows
 (↑i : Int)) (seen - seen % 16 + th + 1) (at0 W ((2 : Int) + at0 rows (↑i : Int))) (at0 W ((2 : Int) + at0 rows (↑i : Int)) == seen))) ∧ ((!at0 W ((2 : Int) + at0 rows (↑i : Int)) == seen) = false → (old.length +
 [seen].length) * 8 ≤ 140737488355328 ∧ ((i64.wrap ((↑i : Int) + 1) == (↑rows.length : Int)) = true → ((c == 1) = true → LfY (qNy st s) (dsF o 36 21 ++ dsF o 8 9) 0 th c true false true (4 : Int) 3 (i64.wrap ((↑i : Int) + 1)) at_ seen val value cause stamp made (1 : Int) 0 0
 0 rs ws asked rows (old ++ [seen]) (W.set ((2 : Int) + at0 rows (↑i : Int)).toNat (seen - seen % 16 + th + 1)) (i64.wrap (steps + 1)) 3 ((2 : Int) + at0 rows (↑i : Int)) (seen - seen % 16 + th + 1) (at0 W ((2 : Int) + at0 rows (↑i : Int))) (at0 W ((2 : Int) + at0 rows (↑i : Int)) == seen)) ∧ ((c == 1) = false → ((c == 2) = true → LfY (qNy st s) (dsF o 36 21 ++ dsF o 8 9) 0 th c true false true (4 : Int) 3 (i64.wrap ((↑i : Int) + 1)) at_ seen val value cause stamp made (2 :
 Int) 0 0 0 rs ws asked rows (old ++ [seen]) (W.set ((2 : Int) + at0 rows (↑i : Int)).toNat (seen - seen % 16 + th + 1)) (i64.wrap (steps + 1)) 3 ((2 : Int) + at0 rows (↑i :
 Int)) (seen - seen % 16 + th + 1) (at0 W ((2 : Int) + at0 rows (↑i : Int))) (at0 W ((2 : Int) + at0 rows (↑i : Int)) == seen)) ∧ ((c == 2) = false → LfY (qNy st s) (dsF o 36 21 ++ dsF o 8 9) 0 th c true false true (4 : Int) 3 (i64.wrap ((↑i : Int) + 1)) at_ seen val value cause stamp made
 0 0 0 0 rs ws asked rows (old ++ [seen]) (W.set ((2 : Int) + at0 rows (↑i : Int)).toNat (seen - seen % 16 + th + 1)) (i64.wrap (steps + 1)) 3 ((2 : Int) + at0 rows
 (↑i : Int)) (seen - seen % 16 + th + 1) (at0 W ((2 : Int) + at0 rows (↑i : Int))) (at0 W ((2 : Int) + at0 rows (↑i : Int)) == seen)))) ∧ ((i64.wrap ((↑i : Int) + 1) == (↑rows.length : Int)) = false → LfY
 (qNy st s) (dsF o 36 21 ++ dsF o 8 9) 0 th c true false true (4 : Int) 1
 (i64.wrap ((↑i : Int) + 1)) at_ seen val value cause stamp made ybk ybst ybse ybsp rs ws asked rows (old ++ [seen]) (W.set ((2 : Int) + at0 rows (↑i : Int)).toNat (seen - seen % 16 + th + 1))
 (i64.wrap (steps + 1)) 3 ((2 : Int) + at0 rows (↑i : Int)) (seen - seen % 16 + th + 1) (at0 W ((2 : Int) + at0 rows (↑i : Int))) (at0 W ((2 : Int) + at0 rows (↑i : Int)) == seen))))) ∧ ((at0 W ((2
 : Int) + at0 rows (↑i : Int)) == seen) = false → ((!at0 W ((2 : Int) + at0 rows (↑i : Int)) == seen) = true → (((↑old.length : Int) == 0) = true → LfY (qNy st s) (dsF o 36 21 ++ dsF o 8 9) 0 th c false false true (5 : Int) 0 0 at_ seen val value (1 : Int) stamp (0 : Int) ybk ybst ybse ybsp rs ws
 asked rows old W (i64.wrap (steps + 1)) 3 ((2 : Int) + at0 rows (↑i : Int)) (seen - seen % 16 + th + 1) (at0 W ((2 : Int) + at0 rows (↑i : Int))) (at0 W ((2 : Int) + at0 rows (↑i : Int)) == seen))
 ∧ (((↑old.length : Int) == 0) = false → LfY (qNy st s) (dsF o 36 21 ++ dsF o 8 9) 0 th c false
 false true (5 : Int) 0 0 at_ seen val value (1 : Int) stamp (0 : Int) ybk ybst ybse ybsp rs ws asked rows old W (i64.wrap (steps + 1)) 3 ((2 : Int) + at0 rows (↑i : Int)) (seen - seen %
 16 + th + 1) (at0 W ((2 : Int) + at0 rows (↑i : Int))) (at0 W ((2 : Int) + at0 rows (↑i : Int)) == seen))) ∧ ((!at0 W ((2 : Int) + at0 rows (↑i : Int)) == seen) = false → (old.length + [seen].length) * 8 ≤
 140737488355328 ∧ ((i64.wrap ((↑i : Int) + 1) == (↑rows.length : Int)) = true → ((c == 1) = true → LfY (qNy st s) (dsF o 36 21 ++ dsF o 8 9) 0 th c true false true (4 : Int) 3 (i64.wrap ((↑i : Int) + 1)) at_ seen val value cause stamp made (1 : Int) 0 0 0 rs ws asked
 rows (old ++ [seen]) W (i64.wrap (steps + 1)) 3 ((2 : Int) + at0 rows (↑i : Int)) (seen - seen % 16 + th + 1) (at0 W ((2 : Int) + at0 rows (↑i : Int))) (at0 W ((2 : Int) + at0 rows (↑i : Int)) ==
 seen)) ∧ ((c == 1) = false → ((c == 2) = true → LfY (qNy st s) (dsF o 36 21 ++ dsF o 8 9) 0 th c
 true false true (4 : Int) 3 (i64.wrap ((↑i : Int) + 1)) at_ seen val value cause stamp made (2 : Int) 0 0 0 rs ws asked rows (old ++ [seen]) W (i64.wrap (steps + 1)) 3 ((2 : Int) + at0 rows (↑i : Int)) (seen - seen % 16 + th + 1) (at0 W ((2 : Int) + at0 rows (↑i : Int))) (at0 W ((2 : Int) + at0 rows (↑i : Int)) == seen)) ∧ ((c == 2) = false → LfY (qNy st s) (dsF o 36 21 ++ dsF o 8 9) 0 th c true false true (4 : Int) 3 (i64.wrap ((↑i : Int) + 1)) at_
 seen val value cause stamp made (0 : Int) 0 0 0 rs ws asked rows (old ++ [seen]) W (i64.wrap (steps + 1)) 3 ((2 : Int) + at0 rows (↑i : Int)) (seen - seen % 16 + th + 1)
 (at0 W ((2 : Int) + at0 rows (↑i : Int))) (at0 W ((2 : Int) + at0 rows (↑i : Int)) == seen)))) ∧ ((i64.wrap ((↑i : Int) + 1) == (↑rows.length : Int)) = false → LfY (qNy st s) (dsF o 36 21 ++ dsF o 8 9) 0 th c true false true (4 : Int) 1 (i64.wrap ((↑i : Int) + 1)) at_ seen val value cause
 stamp made ybk ybst ybse ybsp rs ws asked rows (old ++ [seen]) W (i64.wrap (steps + 1)) 3 ((2 : Int) + at0 rows (↑i : Int)) (seen - seen % 16 + th + 1) (at0 W ((2 : Int) + at0 rows (↑i : Int)))
 (at0 W ((2 : Int) + at0 rows (↑i : Int)) == seen))))))) := by kernel_rfl
theorem ys_t_ok (I : XM → Prop) (hW : W.length = 34) (hst : ∀ r : Int,0 ≤ r → r < 3 → 0 ≤ at0 W (2 + r) ∧ at0 W (2 + r) < 1099511627776) (hi : i < rows.length) (hrr : ∀ r ∈ rows,0 ≤ r ∧ r < 3) (hro : rows.length ≤ 3) (hth : th = 0 ∨ th = 2) (hc : c = 1 ∨ c = 2) (hse : 0 ≤ seen ∧ seen < 1099511627776) (htl : tk.length ≤ 9) : Paid (vcY (yStepD stepX I 39) (⟨code,th,c,1,4,6,i,at_,row,seen,val,value,cause,stamp,made,bk,bst,bse,bsp,true,rs,ws,asked,rows,tk,W,steps,lk,la,lv,ls,ld,ybk,ybst,ybse,ybsp⟩,⟨code,th,c,true,false,true,4,2,i,at_,seen,val,value,cause,stamp,made,ybk,ybst,ybse,ybsp,rs,ws,asked,rows,tk.map (·.vl),W,steps,lk,la,lv,ls,ld⟩) (hpF o 0 37)) := by
 have ha : 0 ≤ at0 rows (i : Int) ∧ at0 rows (i : Int) < 3 := by rw [at0_get hi]; exact hrr _ (List.getElem_mem _)
 have hb := hst _ ha.1 ha.2
 refine ⟨?_⟩
 rw [ys_t]
 refine bd (show 0 ≤ (↑i : Int) by omega) (by omega) ?_ 2
 refine ⟨⟨rfl,(show 0 ≤ at0 rows (↑i : Int) by omega),(show at0 rows (↑i : Int) < 3 by omega)⟩,⟨hse.1,hse.2,(show 0 ≤ th by omega),(show th < 3 by omega)⟩,(in34 hW (show 0 ≤ 2 + at0 rows (↑i : Int) by omega) (show (2 : Int) + at0 rows (↑i : Int) < 34 by omega)),bd (show 0 ≤ 2 + at0 rows (↑i : Int) by omega) (by rw [hW]; omega) ?_ 2⟩
 refine ⟨?_, ?_⟩
 ·intro h1
  refine bd (show 0 ≤ 2 + at0 rows (↑i : Int) by omega) (by rw [hW]; omega) ?_ 2
  refine ⟨?_, ?_⟩
  ·intro h2
   simp only [qo,qy] at h2
   exact absurd (h1.symm.trans h2) (by decide)
  ·intro h3
   simp only [qo,qy] at h3
   refine ⟨(by simp only [qh,qp,List.length_nil]; omega), ?_, ?_⟩
   ·intro h4
    rw [wN (show i < 100000000 by omega)] at h4
    have h4g := eq_of_beq h4
    have h5 : geB (((i + 1 : Nat) : Int)) ((rows.length : Int)) = true := geB_t (by omega)
    have h6 : ltB (((i + 1 : Nat) : Int)) ((rows.length : Int)) = false := ltB_f (by omega)
    refine ⟨?_, ?_⟩
    ·intro h7
     have h7g := eq_of_beq h7
     first | (exfalso; omega) | exact lfy0 (by simp only [yv,stepX,readX',lockX,markX,bumpX,chX,endX,abX,deX,goX,buX,ldX,stX,swX,adX,tick,h1,h5,h6,h4,h7g,h7,List.map_append,List.map_cons,List.map_nil,cond_true,cond_false,Bool.cond_self,Bool.not_true,Bool.not_false,Bool.and_true,Bool.true_and,Bool.and_false,Bool.false_and,qx,eqB,beq_self_eq_true,if_true,if_false,Int.reduceEq,reduceIte]; try rfl) (wN (by omega)) ⟨rfl,(fun h => absurd (show (6 : Int) = 4 from h.2.1) (by decide))⟩
    ·intro h8
     have h8g := ne_of_beq_false h8
     refine ⟨?_, ?_⟩
     ·intro h9
      have h9g := eq_of_beq h9
      first | (exfalso; omega) | exact lfy0 (by simp only [yv,stepX,readX',lockX,markX,bumpX,chX,endX,abX,deX,goX,buX,ldX,stX,swX,adX,tick,h1,h5,h6,h4,h8,h9g,h9,List.map_append,List.map_cons,List.map_nil,cond_true,cond_false,Bool.cond_self,Bool.not_true,Bool.not_false,Bool.and_true,Bool.true_and,Bool.and_false,Bool.false_and,qx,eqB,beq_self_eq_true,if_true,if_false,Int.reduceEq,reduceIte]; try rfl) (wN (by omega)) ⟨rfl,(fun h => absurd (show (6 : Int) = 4 from h.2.1) (by decide))⟩
     ·intro h10
      have h10g := ne_of_beq_false h10
      first | (exfalso; omega) | exact lfy0 (by simp only [yv,stepX,readX',lockX,markX,bumpX,chX,endX,abX,deX,goX,buX,ldX,stX,swX,adX,tick,h1,h5,h6,h4,h8,h10,List.map_append,List.map_cons,List.map_nil,cond_true,cond_false,Bool.cond_self,Bool.not_true,Bool.not_false,Bool.and_true,Bool.true_and,Bool.and_false,Bool.false_and,qx,eqB,beq_self_eq_true,if_true,if_false,Int.reduceEq,reduceIte]; try rfl) (wN (by omega)) ⟨rfl,(fun h => absurd (show (6 : Int) = 4 from h.2.1) (by decide))⟩
   ·intro h11
    rw [wN (show i < 100000000 by omega)] at h11
    have h11g := ne_of_beq_false h11
    have h12 : geB (((i + 1 : Nat) : Int)) ((rows.length : Int)) = false := geB_f (by omega)
    have h13 : ltB (((i + 1 : Nat) : Int)) ((rows.length : Int)) = true := ltB_t (by omega)
    first | (exfalso; omega) | exact lfy0 (by simp only [yv,stepX,readX',lockX,markX,bumpX,chX,endX,abX,deX,goX,buX,ldX,stX,swX,adX,tick,h1,h12,h13,h11,List.map_append,List.map_cons,List.map_nil,cond_true,cond_false,Bool.cond_self,Bool.not_true,Bool.not_false,Bool.and_true,Bool.true_and,Bool.and_false,Bool.false_and,qx,eqB,beq_self_eq_true,if_true,if_false,Int.reduceEq,reduceIte]; try rfl) (wN (by omega)) ⟨rfl,(fun h => absurd (show (6 : Int) = 4 from h.2.1) (by decide))⟩
 ·intro h14
  refine ⟨?_, ?_⟩
  ·intro h15
   simp only [qo,qy] at h15
   refine ⟨?_, ?_⟩
   ·intro h16
    rw [qh] at h16
    have h16g := eq_of_beq h16
    first | (exfalso; omega) | exact lfy0 (by simp only [yv,stepX,readX',lockX,markX,bumpX,chX,endX,abX,deX,goX,buX,ldX,stX,swX,adX,tick,h14,h16,List.map_append,List.map_cons,List.map_nil,cond_true,cond_false,Bool.cond_self,Bool.not_true,Bool.not_false,Bool.and_true,Bool.true_and,Bool.and_false,Bool.false_and,qx,eqB,beq_self_eq_true,if_true,if_false,Int.reduceEq,reduceIte]; try rfl) rfl ⟨rfl,(fun h => absurd (show (6 : Int) = 4 from h.2.1) (by decide))⟩
   ·intro h17
    rw [qh] at h17
    have h17g := ne_of_beq_false h17
    first | (exfalso; omega) | exact lfy0 (by simp only [yv,stepX,readX',lockX,markX,bumpX,chX,endX,abX,deX,goX,buX,ldX,stX,swX,adX,tick,h14,h17,List.map_append,List.map_cons,List.map_nil,cond_true,cond_false,Bool.cond_self,Bool.not_true,Bool.not_false,Bool.and_true,Bool.true_and,Bool.and_false,Bool.false_and,qx,eqB,beq_self_eq_true,if_true,if_false,Int.reduceEq,reduceIte]; try rfl) rfl ⟨rfl,(fun h => absurd (show (6 : Int) = 4 from h.2.1) (by decide))⟩
  ·intro h18
   simp only [qo,qy] at h18
   exact absurd (h14.symm.trans h18) (by decide)
end Go.Proofs.YtmjjljngaefpaaaGreat

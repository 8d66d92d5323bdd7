/- Tl2Two: a step of the reference's attempt, from each of its states. -/
import Derived.Test.YtmjjljngaefpaaaGreatYl
namespace Go.Proofs.YtmjjljngaefpaaaGreat
open Go.RowKit Go.Am Go.Sy
open Go.IntKind (i64 u64)
set_option linter.unusedVariables false
set_option linter.unusedSimpArgs false
variable (code th c part : Int) (i : Nat) (at_ row seen val value cause stamp made bk bst bse bsp : Int) (ph ld : Bool) (rs ws tk : List Wo) (rows old W : List Int) (asked steps lk la lv ls ybk ybst ybse ybsp : Int)
variable (o : Nat → Option Ob)
theorem ys_w (st : XM → XM) (I : XM → Prop) (s : XM) : Go.Sy.Tree.holds (vcY (yStepD st I 39) (s,⟨code,th,c,true,true,true,4,6,i,at_,seen,val,value,cause,stamp,made,ybk,ybst,ybse,ybsp,rs,ws,asked,
 rows,old,W,steps,lk,la,lv,ls,ld⟩) (hpF o 0 37)) =
 ( Bd 4 ((↑i : Int)) (↑ws.length : Int) (inD.pre (Mw.mk W,(at3 ws (↑i : Int)).pl,()) ∧ Bd 4 ((at3 ws (↑i : Int)).pl) (↑W.length : Int) (((i64.wrap ((↑i : Int) + 1) == (↑ws.length : Int)) = true → LfY (qNy st s)
 (dsF o 36 21 ++ dsF o 8 9) 0 th c true true true (4 : Int) 7 0 at_ seen val value
 cause stamp made ybk ybst ybse ybsp rs ws asked rows old (W.set (at3 ws (↑i : Int)).pl.toNat (at3 ws (↑i : Int)).vl) (i64.wrap (steps + 1)) 2 ((at3 ws (↑i : Int)).pl) ((at3 ws (↑i : Int)).vl) (at0 W (at3
 ws (↑i : Int)).pl) true) ∧ ((i64.wrap ((↑i : Int) + 1) == (↑ws.length : Int)) = false → LfY (qNy st s) (dsF o 36 21 ++ dsF o 8 9) 0 th c true true true (4 : Int) 6 (i64.wrap ((↑i : Int) + 1)) at_ seen val value cause stamp made ybk ybst ybse ybsp rs ws asked rows old (W.set (at3 ws (↑i :
 Int)).pl.toNat (at3 ws (↑i : Int)).vl) (i64.wrap (steps + 1)) 2 ((at3 ws (↑i : Int)).pl) ((at3 ws (↑i : Int)).vl) (at0 W (at3 ws (↑i : Int)).pl) true)))) := by kernel_rfl
theorem ys_w_ok (I : XM → Prop) (hW : W.length = 34) (hi : i < ws.length) (hws : ws.length ≤ 9) (hwd : ∀ w ∈ ws,isData w.pl) : Paid (vcY (yStepD stepX I 39) (⟨code,th,c,2,4,9,i,at_,row,seen,val,value,cause,stamp,made,bk,bst,bse,bsp,true,rs,ws,asked,rows,tk,W,steps,lk,la,lv,ls,ld,ybk,ybst,ybse,ybsp⟩,⟨code,th,c,true,true,true,4,6,i,at_,seen,val,value,cause,stamp,made,ybk,ybst,ybse,ybsp,rs,ws,asked,rows,tk.map (·.vl),W,steps,lk,la,lv,ls,ld⟩) (hpF o 0 37)) := by
 have ha : 0 ≤ (at3 ws (i : Int)).pl ∧ (at3 ws (i : Int)).pl < 34 := by rw [at3_get hi]; exact data_lt (hwd _ (List.getElem_mem _))
 refine ⟨?_⟩
 rw [ys_w]
 refine bd (show 0 ≤ (↑i : Int) by omega) (by omega) ?_ 4
 refine ⟨(in34 hW (show 0 ≤ (at3 ws (↑i : Int)).pl by omega) (show (at3 ws (↑i : Int)).pl < 34 by omega)),bd (show 0 ≤ (at3 ws (↑i : Int)).pl by omega) (by rw [hW]; omega) ?_ 4⟩
 refine ⟨?_, ?_⟩
 ·intro h1
  rw [wN (show i < 100000000 by omega)] at h1
  have h1g := eq_of_beq h1
  have h2 : geB (((i + 1 : Nat) : Int)) ((ws.length : Int)) = true := geB_t (by omega)
  have h3 : ltB (((i + 1 : Nat) : Int)) ((ws.length : Int)) = false := ltB_f (by omega)
  first | exact deadL | ((try clear h1g); exact lfyB rfl (ny2 9 rfl))
 ·intro h4
  rw [wN (show i < 100000000 by omega)] at h4
  have h4g := ne_of_beq_false h4
  have h5 : geB (((i + 1 : Nat) : Int)) ((ws.length : Int)) = false := geB_f (by omega)
  have h6 : ltB (((i + 1 : Nat) : Int)) ((ws.length : Int)) = true := ltB_t (by omega)
  first | exact deadL | ((try clear h1g); exact lfyB (wN (by omega)) (ny2 9 rfl))
theorem ys_f (st : XM → XM) (I : XM → Prop) (s : XM) : Go.Sy.Tree.holds (vcY (yStepD st I 39) (s,⟨code,th,c,true,true,true,4,7,i,at_,seen,val,value,cause,stamp,made,ybk,ybst,ybse,ybsp,rs,ws,asked,
 rows,old,W,steps,lk,la,lv,ls,ld⟩) (hpF o 0 37)) =
 ( Bd 2 ((↑i : Int)) (↑rows.length : Int) (stripeD.pre (mp1,at0 rows (↑i : Int),()) ∧ inD.pre (Mw.mk W,2 + at0 rows (↑i : Int),()) ∧ Bd 4 ((2 : Int) + at0 rows (↑i : Int)) (↑W.length : Int) (((i64.wrap
 ((↑i : Int) + 1) == (↑rows.length : Int)) = true → LfY (qNy st s) (dsF o 36 21 ++ dsF o 8 9) 0 th
 c true true true (4 : Int) 8 (i64.wrap ((↑i : Int) + 1)) at_ seen val value cause stamp made ybk ybst ybse ybsp rs ws asked rows old (W.set ((2 : Int) + at0 rows (↑i : Int)).toNat (i64.wrap (made
 * 16))) (i64.wrap (steps + 1)) 2 ((2 : Int) + at0 rows (↑i : Int)) (i64.wrap (made * 16)) (at0 W ((2 : Int) + at0 rows (↑i : Int))) true) ∧ ((i64.wrap ((↑i : Int) + 1) == (↑rows.length :
 Int)) = false → LfY (qNy st s) (dsF o 36 21 ++ dsF o 8 9) 0 th c true true true (4 : Int) 7 (i64.wrap ((↑i : Int) + 1)) at_ seen val value cause stamp made ybk ybst ybse ybsp rs ws asked rows old (W.set ((2 : Int) + at0 rows (↑i : Int)).toNat (i64.wrap (made * 16))) (i64.wrap (steps
 + 1)) 2 ((2 : Int) + at0 rows (↑i : Int)) (i64.wrap (made * 16)) (at0 W ((2 : Int) + at0 rows (↑i : Int))) true)))) := by kernel_rfl
theorem ys_f_ok (I : XM → Prop) (hW : W.length = 34) (hi : i < rows.length) (hrr : ∀ r ∈ rows,0 ≤ r ∧ r < 3) (hro : rows.length ≤ 3) (hma : 0 ≤ made ∧ made < 68719476736) : Paid (vcY (yStepD stepX I 39) (⟨code,th,c,2,4,10,i,at_,row,seen,val,value,cause,stamp,made,bk,bst,bse,bsp,true,rs,ws,asked,rows,tk,W,steps,lk,la,lv,ls,ld,ybk,ybst,ybse,ybsp⟩,⟨code,th,c,true,true,true,4,7,i,at_,seen,val,value,cause,stamp,made,ybk,ybst,ybse,ybsp,rs,ws,asked,rows,tk.map (·.vl),W,steps,lk,la,lv,ls,ld⟩) (hpF o 0 37)) := by
 have ha : 0 ≤ at0 rows (i : Int) ∧ at0 rows (i : Int) < 3 := by rw [at0_get hi]; exact hrr _ (List.getElem_mem _)
 refine ⟨?_⟩
 rw [ys_f]
 refine bd (show 0 ≤ (↑i : Int) by omega) (by omega) ?_ 2
 refine ⟨⟨rfl,(show 0 ≤ at0 rows (↑i : Int) by omega),(show at0 rows (↑i : Int) < 3 by omega)⟩,(in34 hW (show 0 ≤ 2 + at0 rows (↑i : Int) by omega) (show (2 : Int) + at0 rows (↑i : Int) < 34 by omega)),bd (show 0 ≤ 2 + at0 rows (↑i : Int) by omega) (by rw [hW]; omega) ?_ 4⟩
 refine ⟨?_, ?_⟩
 ·intro h1
  rw [wN (show i < 100000000 by omega)] at h1
  have h1g := eq_of_beq h1
  have h2 : geB (((i + 1 : Nat) : Int)) ((rows.length : Int)) = true := geB_t (by omega)
  have h3 : ltB (((i + 1 : Nat) : Int)) ((rows.length : Int)) = false := ltB_f (by omega)
  first | (exfalso; omega) | exact lfy0 (by simp only [yv,stepX,readX',lockX,markX,bumpX,chX,endX,abX,deX,goX,buX,ldX,stX,swX,adX,tick,h2,h3,h1,wrap64 (n := made * 16) (by omega) (by omega),cond_true,cond_false,Bool.cond_self,Bool.not_true,Bool.not_false,Bool.and_true,Bool.true_and,Bool.and_false,Bool.false_and,qx,eqB,beq_self_eq_true,if_true,if_false,Int.reduceEq,reduceIte]; try rfl) (wN (by omega)) ⟨rfl,(fun h => absurd (show (10 : Int) = 4 from h.2.1) (by decide))⟩
 ·intro h4
  rw [wN (show i < 100000000 by omega)] at h4
  have h4g := ne_of_beq_false h4
  have h5 : geB (((i + 1 : Nat) : Int)) ((rows.length : Int)) = false := geB_f (by omega)
  have h6 : ltB (((i + 1 : Nat) : Int)) ((rows.length : Int)) = true := ltB_t (by omega)
  first | (exfalso; omega) | exact lfy0 (by simp only [yv,stepX,readX',lockX,markX,bumpX,chX,endX,abX,deX,goX,buX,ldX,stX,swX,adX,tick,h5,h6,h4,wrap64 (n := made * 16) (by omega) (by omega),cond_true,cond_false,Bool.cond_self,Bool.not_true,Bool.not_false,Bool.and_true,Bool.true_and,Bool.and_false,Bool.false_and,qx,eqB,beq_self_eq_true,if_true,if_false,Int.reduceEq,reduceIte]; try rfl) (wN (by omega)) ⟨rfl,(fun h => absurd (show (10 : Int) = 4 from h.2.1) (by decide))⟩
theorem ys_e (st : XM → XM) (I : XM → Prop) (s : XM) : Go.Sy.Tree.holds (vcY (yStepD st I 39) (s,⟨code,th,c,true,true,true,4,8,i,at_,seen,val,value,cause,stamp,made,ybk,ybst,ybse,ybsp,rs,ws,asked,
 rows,old,W,steps,lk,la,lv,ls,ld⟩) (hpF o 0 37)) =
 ( threadD.pre (mp1,th,(0 : Int),()) ∧ inD.pre (Mw.mk W,11 + 2 * th,()) ∧ Bd 4 ((11 : Int) + 2 * th) (↑W.length : Int) ((decide ((↑ws.length : Int) > 0) = true → LfY (qNy st s) (dsF o 36 21 ++ dsF o 8 9) 1 th c false true true (0 : Int) 8 (↑i : Int) at_ seen val value cause made made ybk ybst
 ybse ybsp rs ws asked rows old (W.set ((11 : Int) + 2 * th).toNat (0 : Int)) (i64.wrap (steps + 1)) 2 ((11 : Int) + 2 * th) 0 (at0 W ((11 : Int) + 2 * th)) true) ∧ (decide ((↑ws.length : Int) > 0)
 = false → LfY (qNy st s) (dsF o 36 21 ++ dsF o 8 9) 1 th c false true true (0 : Int) 8
 (↑i : Int) at_ seen val value cause stamp made ybk ybst ybse ybsp rs ws asked rows old (W.set ((11 : Int) + 2 * th).toNat (0 : Int)) (i64.wrap (steps + 1)) 2 ((11 : Int) + 2 * th) 0 (at0 W ((11 :
 Int) + 2 * th)) true))) := by kernel_rfl
theorem ys_e_ok (I : XM → Prop) (hW : W.length = 34) (hth : th = 0 ∨ th = 2) : Paid (vcY (yStepD stepX I 39) (⟨code,th,c,2,4,11,i,at_,row,seen,val,value,cause,stamp,made,bk,bst,bse,bsp,true,rs,ws,asked,rows,tk,W,steps,lk,la,lv,ls,ld,ybk,ybst,ybse,ybsp⟩,⟨code,th,c,true,true,true,4,8,i,at_,seen,val,value,cause,stamp,made,ybk,ybst,ybse,ybsp,rs,ws,asked,rows,tk.map (·.vl),W,steps,lk,la,lv,ls,ld⟩) (hpF o 0 37)) := by
 refine ⟨?_⟩
 rw [ys_e]
 refine ⟨⟨rfl,(show 0 ≤ th by omega),(show th < 3 by omega),rfl⟩,(in34 hW (show 0 ≤ 11 + 2 * th by omega) (show (11 : Int) + 2 * th < 34 by omega)),bd (show 0 ≤ 11 + 2 * th by omega) (by rw [hW]; omega) ?_ 4⟩
 refine ⟨?_, ?_⟩
 ·intro h1
  have h1g := qb h1
  have h2 : ltB (0) ((ws.length : Int)) = true := ltB_t (by omega)
  have h3 : gtB ((ws.length : Int)) (0) = true := gtB_t (by omega)
  first | exact deadL | exact lfyB rfl (ny2 11 rfl)
 ·intro h4
  have h4g := qc h4
  have h5 : ltB (0) ((ws.length : Int)) = false := ltB_f (by omega)
  have h6 : gtB ((ws.length : Int)) (0) = false := gtB_f (by omega)
  first | exact deadL | exact lfyB rfl (ny2 11 rfl)
theorem ys_u (st : XM → XM) (I : XM → Prop) (s : XM) : Go.Sy.Tree.holds (vcY (yStepD st I 39) (s,⟨code,th,c,false,false,true,5,0,i,at_,seen,val,value,cause,stamp,made,ybk,ybst,ybse,ybsp,rs,ws,asked,
 rows,old,W,steps,lk,la,lv,ls,ld⟩) (hpF o 0 37)) =
 ( (decide ((↑i : Int) < (↑old.length : Int)) = true → Bd 2 ((↑i : Int)) (↑rows.length : Int) (stripeD.pre (mp1,at0 rows (↑i : Int),()) ∧ Bd 2 ((↑i : Int)) (↑old.length : Int) (inD.pre (Mw.mk W,2 + at0 rows (↑i
 : Int),()) ∧ Bd 4 ((2 : Int) + at0 rows (↑i : Int)) (↑W.length : Int) ((decide (i64.wrap ((↑i : Int) + 1) < (↑old.length : Int)) = true → LfY (qNy st s) (dsF o 36 21 ++ dsF o 8 9) 0 th c false false true (5 : Int) 0 (i64.wrap ((↑i : Int) + 1)) at_ seen val value cause stamp made ybk ybst
 ybse ybsp rs ws asked rows old (W.set ((2 : Int) + at0 rows (↑i : Int)).toNat (at0 old (↑i : Int))) (i64.wrap (steps + 1)) 2 ((2 : Int) + at0 rows (↑i : Int)) (at0 old (↑i : Int)) (at0 W ((2 : Int) + at0
 rows (↑i : Int))) true) ∧ (decide (i64.wrap ((↑i : Int) + 1) < (↑old.length : Int)) = false → LfY (qNy st s) (dsF o 36 21 ++ dsF o 8 9) 0 th c false false true (5 : Int) 0 (i64.wrap ((↑i : Int) + 1)) at_ seen val value cause stamp made ybk ybst ybse ybsp rs ws asked rows old (W.set ((2 :
 Int) + at0 rows (↑i : Int)).toNat (at0 old (↑i : Int))) (i64.wrap (steps + 1)) 2 ((2 : Int) + at0 rows (↑i : Int)) (at0 old (↑i : Int)) (at0 W ((2 : Int) + at0 rows (↑i : Int))) true))))) ∧ (decide ((↑i :
 Int) < (↑old.length : Int)) = false → threadD.pre (mp1,th,(0 : Int),()) ∧ inD.pre (Mw.mk W,11 + 2 * th,()) ∧ Bd 4 ((11 : Int) + 2 * th) (↑W.length : Int) ((decide ((↑i : Int) < (↑old.length : Int)) = true →
 LfY (qNy st s) (dsF o 36 21 ++ dsF o 8 9) 0 th c false false false (5 : Int) 0 (↑i : Int)
 at_ seen val value cause stamp made ybk ybst ybse ybsp rs ws asked rows old (W.set ((11 : Int) + 2 * th).toNat (0 : Int)) (i64.wrap (steps + 1)) 2 ((11 : Int) + 2 * th) 0 (at0 W ((11 : Int) + 2 *
 th)) true) ∧ (decide ((↑i : Int) < (↑old.length : Int)) = false → LfY (qNy st s) (dsF o 36 21 ++ dsF o 8 9) 2 th c false false false (0 : Int) 0 (↑i : Int) at_ seen val value cause stamp made ybk ybst ybse ybsp rs ws asked rows old (W.set ((11 : Int) + 2 * th).toNat (0 : Int)) (i64.wrap (steps + 1))
 2 ((11 : Int) + 2 * th) 0 (at0 W ((11 : Int) + 2 * th)) true)))) := by kernel_rfl
theorem ys_u_ok (I : XM → Prop) (hW : W.length = 34) (hth : th = 0 ∨ th = 2) (htr : tk.length ≤ rows.length) (htk : i < tk.length → (at3 tk (i : Int)).pl = 2 + at0 rows (i : Int)) (hrr : ∀ r ∈ rows,0 ≤ r ∧ r < 3) (hro : rows.length ≤ 3) : Paid (vcY (yStepD stepX I 39) (⟨code,th,c,3,5,0,i,at_,row,seen,val,value,cause,stamp,made,bk,bst,bse,bsp,true,rs,ws,asked,rows,tk,W,steps,lk,la,lv,ls,ld,ybk,ybst,ybse,ybsp⟩,⟨code,th,c,false,false,true,5,0,i,at_,seen,val,value,cause,stamp,made,ybk,ybst,ybse,ybsp,rs,ws,asked,rows,tk.map (·.vl),W,steps,lk,la,lv,ls,ld⟩) (hpF o 0 37)) := by
 refine ⟨?_⟩
 rw [ys_u]
 refine ⟨?_, ?_⟩
 ·intro h1
  rw [qh] at h1
  have h1g := qb h1
  have h2 : ltB ((i : Int)) ((tk.length : Int)) = true := ltB_t (by omega)
  have hi : i < tk.length := by omega
  have hi2 : i < rows.length := by omega
  have ha : 0 ≤ at0 rows (i : Int) ∧ at0 rows (i : Int) < 3 := by rw [at0_get hi2]; exact hrr _ (List.getElem_mem _)
  have e1 := htk hi
  have e2 : at0 (tk.map (·.vl)) (i : Int) = (at3 tk (i : Int)).vl := by rw [at0_get (by rw [qh]; exact hi),at3_get hi,List.getElem_map]
  refine bd (show 0 ≤ (↑i : Int) by omega) (by omega) ?_ 2
  refine ⟨⟨rfl,(show 0 ≤ at0 rows (↑i : Int) by omega),(show at0 rows (↑i : Int) < 3 by omega)⟩,bd (show 0 ≤ (↑i : Int) by omega) (by rw [qh]; omega) ?_ 2⟩
  refine ⟨(in34 hW (show 0 ≤ 2 + at0 rows (↑i : Int) by omega) (show (2 : Int) + at0 rows (↑i : Int) < 34 by omega)),bd (show 0 ≤ 2 + at0 rows (↑i : Int) by omega) (by rw [hW]; omega) ?_ 4⟩
  refine ⟨?_, ?_⟩
  ·intro h3
   rw [wN (show i < 100000000 by omega)] at h3
   rw [qh] at h3
   have h3g := qb h3
   first | exact deadL | exact lfyB (wN (by omega)) (ny1 5 rfl)
  ·intro h4
   rw [wN (show i < 100000000 by omega)] at h4
   rw [qh] at h4
   have h4g := qc h4
   first | exact deadL | exact lfyB (wN (by omega)) (ny1 5 rfl)
 ·intro h5
  rw [qh] at h5
  have h5g := qc h5
  have h6 : ltB ((i : Int)) ((tk.length : Int)) = false := ltB_f (by omega)
  refine ⟨⟨rfl,(show 0 ≤ th by omega),(show th < 3 by omega),rfl⟩,(in34 hW (show 0 ≤ 11 + 2 * th by omega) (show (11 : Int) + 2 * th < 34 by omega)),bd (show 0 ≤ 11 + 2 * th by omega) (by rw [hW]; omega) ?_ 4⟩
  refine ⟨?_, ?_⟩
  ·intro h7
   rw [qh] at h7
   exact absurd (h5.symm.trans h7) (by decide)
  ·intro h8
   rw [qh] at h8
   first | exact deadL | exact lfyB rfl (ny1 5 rfl)
end Go.Proofs.YtmjjljngaefpaaaGreat

/- Tl2Two: a step of the reference's attempt, from each of its states. -/
import Derived.Test.YtmjjljngaefpaaaGreatYl
namespace Go.Proofs.YtmjjljngaefpaaaGreat
open Go.RowKit Go.Am Go.Sy
open Go.IntKind (i64 u64)
set_option linter.unusedVariables false
set_option linter.unusedSimpArgs false
variable (code th c part : Int) (i : Nat) (at_ row seen val value cause stamp made bk bst bse bsp : Int) (ph ld : Bool) (rs ws tk : List Wo) (rows old W : List Int) (asked steps lk la lv ls ybk ybst ybse ybsp : Int)
variable (o : Nat → Option Ob)
theorem ys_o (st : XM → XM) (I : XM → Prop) (s : XM) : Go.Sy.Tree.holds (vcY (yStepD st I 39) (s,⟨code,th,c,true,false,true,4,3,i,at_,seen,val,value,cause,stamp,made,1,0,ybse,ybsp,rs,ws,asked,rows,
 old,W,steps,lk,la,lv,ls,ld⟩) (hpF o 0 37)) = (
 clockD.pre (mp1,()) ∧ inD.pre (Mw.mk W,(0 : Int),()) ∧ Bd 4 ((0 : Int)) (↑W.length : Int) ((decide (i64.wrap (at0 W (0 : Int) + 1) > 1000) = true → (((↑old.length : Int) == 0) = true → LfY (qNy st s) (dsF o 36 21 ++ dsF o 8 9) 0 th c false false true (5 : Int) 0 0 at_ seen val value (5
 : Int) stamp (0 : Int) 1 9 ybse (i64.wrap (at0 W (0 : Int) + 1)) rs ws asked rows old (W.set (0 : Nat) (i64.wrap (at0 W (0 : Int) + 1))) (i64.wrap (steps + 1)) 4 0
 1 (at0 W (0 : Int)) true) ∧ (((↑old.length : Int) == 0) = false → LfY (qNy st s) (dsF o 36 21 ++ dsF o 8 9) 0 th c false false true (5 : Int) 0 0 at_ seen val value (5 : Int) stamp (0 : Int) 1 9 ybse (i64.wrap (at0 W (0 : Int) + 1)) rs ws asked rows old (W.set (0 :
 Nat) (i64.wrap (at0 W (0 : Int) + 1))) (i64.wrap (steps + 1)) 4 0 1 (at0 W (0 : Int)) true)) ∧ (decide (i64.wrap (at0 W (0 : Int) + 1) > 1000) = false → ((i64.wrap
 (at0 W (0 : Int) + 1) == i64.wrap (stamp + 1)) = true → (decide ((↑ws.length : Int) > 0) = true → LfY (qNy st s) (dsF o 36 21 ++ dsF o 8 9) 0 th c true true true (4 : Int) 6 0 at_ seen val value cause stamp (i64.wrap (at0 W (0 : Int) + 1)) 1 9 ybse (i64.wrap
 (at0 W (0 : Int) + 1)) rs ws asked rows old (W.set (0 : Nat) (i64.wrap (at0 W (0 : Int) + 1))) (i64.wrap (steps + 1)) 4 0 1 (at0 W (0 : Int)) true) ∧ (decide ((↑ws.length : Int) >
 0) = false → LfY (qNy st s) (dsF o 36 21 ++ dsF o 8 9) 0 th c true true true (4 : Int) 8
 0 at_ seen val value cause stamp (i64.wrap (at0 W (0 : Int) + 1)) 1 9 ybse (i64.wrap (at0 W (0 : Int) + 1)) rs ws asked rows old (W.set (0 : Nat) (i64.wrap (at0 W (0 : Int)
 + 1))) (i64.wrap (steps + 1)) 4 0 1 (at0 W (0 : Int)) true)) ∧ ((i64.wrap (at0 W (0 : Int) + 1) == i64.wrap (stamp + 1)) = false → (((↑rs.length : Int) == 0) = true →
 (decide ((↑ws.length : Int) > 0) = true → LfY (qNy st s) (dsF o 36 21 ++ dsF o 8 9) 0 th c true
 true true (4 : Int) 6 0 at_ seen val value cause stamp (i64.wrap (at0 W (0 : Int) + 1)) 1 9 ybse (i64.wrap (at0 W (0 : Int) + 1)) rs ws asked rows old (W.set (0 : Nat)
 (i64.wrap (at0 W (0 : Int) + 1))) (i64.wrap (steps + 1)) 4 0 1 (at0 W (0 : Int)) true) ∧ (decide ((↑ws.length : Int) > 0) = false → LfY (qNy st s) (dsF o 36 21 ++ dsF o 8 9) 0 th c true true true (4 : Int) 8 0 at_ seen val value cause stamp (i64.wrap
 (at0 W (0 : Int) + 1)) 1 9 ybse (i64.wrap (at0 W (0 : Int) + 1)) rs ws asked rows old (W.set (0 : Nat) (i64.wrap (at0 W (0 : Int) + 1))) (i64.wrap (steps + 1)) 4 0
 1 (at0 W (0 : Int)) true)) ∧ (((↑rs.length : Int) == 0) = false → LfY (qNy st s) (dsF o 36 21 ++ dsF o 8 9) 0 th c true false true (4 : Int) 4 0 at_ seen val value cause stamp (i64.wrap (at0 W (0 : Int) + 1)) 1 9 ybse (i64.wrap (at0 W (0 : Int) + 1)) rs ws
 asked rows old (W.set (0 : Nat) (i64.wrap (at0 W (0 : Int) + 1))) (i64.wrap (steps + 1)) 4 0 1 (at0 W (0 : Int)) true))))) := by kernel_rfl
theorem ys_o_ok (I : XM → Prop) (hW : W.length = 34) (hw9 : ws.length ≤ 9) : Paid (vcY (yStepD stepX I 39) (⟨code,th,c,1,4,7,i,at_,row,seen,val,value,cause,stamp,made,1,0,bse,bsp,true,rs,ws,asked,rows,tk,W,steps,lk,la,lv,ls,ld,1,0,bse,bsp⟩,⟨code,th,c,true,false,true,4,3,i,at_,seen,val,value,cause,stamp,made,1,0,bse,bsp,rs,ws,asked,rows,tk.map (·.vl),W,steps,lk,la,lv,ls,ld⟩) (hpF o 0 37)) := by
 refine ⟨?_⟩
 rw [ys_o]
 refine ⟨rfl,(in34 hW (show 0 ≤ 0 by omega) (show (0 : Int) < 34 by omega)),bd (show 0 ≤ 0 by omega) (by rw [hW]; omega) ?_ 4⟩
 refine ⟨?_, ?_⟩
 ·intro h1
  have h1g := qb h1
  have h2 : gtB (i64.wrap (at0 W (0 : Int) + 1)) ((1000 : Int)) = true := gtB_t (by omega)
  refine ⟨?_, ?_⟩
  ·intro h3
   rw [qh] at h3
   have h3g := eq_of_beq h3
   first | exact deadL | ((try clear h3g); exact lfyB rfl (ny2 7 rfl))
  ·intro h4
   rw [qh] at h4
   have h4g := ne_of_beq_false h4
   first | exact deadL | ((try clear h3g); exact lfyB rfl (ny2 7 rfl))
 ·intro h5
  have h5g := qc h5
  have h6 : gtB (i64.wrap (at0 W (0 : Int) + 1)) ((1000 : Int)) = false := gtB_f (by omega)
  refine ⟨?_, ?_⟩
  ·intro h7
   refine ⟨?_, ?_⟩
   ·intro h8
    have h8g := qb h8
    have h9 : ltB (0) ((ws.length : Int)) = true := ltB_t (by omega)
    have h10 : gtB ((ws.length : Int)) (0) = true := gtB_t (by omega)
    first | exact deadL | ((try clear h3g); exact lfyB rfl (ny2 7 rfl))
   ·intro h11
    have h11g := qc h11
    have h12 : ltB (0) ((ws.length : Int)) = false := ltB_f (by omega)
    have h13 : gtB ((ws.length : Int)) (0) = false := gtB_f (by omega)
    first | exact deadL | ((try clear h3g); exact lfyB rfl (ny2 7 rfl))
  ·intro h14
   refine ⟨?_, ?_⟩
   ·intro h15
    have h15g := eq_of_beq h15
    have h16 : ltB (0) ((rs.length : Int)) = false := ltB_f (by omega)
    refine ⟨?_, ?_⟩
    ·intro h17
     have h17g := qb h17
     have h18 : ltB (0) ((ws.length : Int)) = true := ltB_t (by omega)
     have h19 : gtB ((ws.length : Int)) (0) = true := gtB_t (by omega)
     first | exact deadL | ((try clear h3g); (try clear h15g); exact lfyB rfl (ny2 7 rfl))
    ·intro h20
     have h20g := qc h20
     have h21 : ltB (0) ((ws.length : Int)) = false := ltB_f (by omega)
     have h22 : gtB ((ws.length : Int)) (0) = false := gtB_f (by omega)
     first | exact deadL | ((try clear h3g); (try clear h15g); exact lfyB rfl (ny2 7 rfl))
   ·intro h23
    have h23g := ne_of_beq_false h23
    have h24 : ltB (0) ((rs.length : Int)) = true := ltB_t (by omega)
    first | exact deadL | ((try clear h3g); (try clear h15g); exact lfyB rfl (ny2 7 rfl))
theorem ys_j (st : XM → XM) (I : XM → Prop) (s : XM) : Go.Sy.Tree.holds (vcY (yStepD st I 39) (s,⟨code,th,c,true,false,true,4,3,i,at_,seen,val,value,cause,stamp,made,2,0,ybse,ybsp,rs,ws,asked,rows,
 old,W,steps,lk,la,lv,ls,ld⟩) (hpF o 0 37)) = (
 clockD.pre (mp1,()) ∧ inD.pre (Mw.mk W,(0 : Int),()) ∧ Bd 6 ((0 : Int)) (↑W.length : Int) (LfY (qNy st s) (dsF o 36 21 ++ dsF o 8 9) 0 th c true false true (4 : Int) 3 (↑i : Int) at_ seen val value cause stamp made (2 : Int) 1 (at0 W (0 : Int)) ybsp rs ws asked rows old W (i64.wrap (steps
 + 1)) 1 0 (at0 W (0 : Int)) (at0 W (0 : Int)) true)) := by kernel_rfl
theorem ys_j_ok (I : XM → Prop) (hW : W.length = 34) : Paid (vcY (yStepD stepX I 39) (⟨code,th,c,1,4,7,i,at_,row,seen,val,value,cause,stamp,made,2,0,bse,bsp,true,rs,ws,asked,rows,tk,W,steps,lk,la,lv,ls,ld,2,0,bse,bsp⟩,⟨code,th,c,true,false,true,4,3,i,at_,seen,val,value,cause,stamp,made,2,0,bse,bsp,rs,ws,asked,rows,tk.map (·.vl),W,steps,lk,la,lv,ls,ld⟩) (hpF o 0 37)) := by
 refine ⟨?_⟩
 rw [ys_j]
 refine ⟨rfl,(in34 hW (show 0 ≤ 0 by omega) (show (0 : Int) < 34 by omega)),bd (show 0 ≤ 0 by omega) (by rw [hW]; omega) ?_ 6⟩
 first | exact deadL | exact lfyB rfl (ny2 7 rfl)
theorem ys_k (st : XM → XM) (I : XM → Prop) (s : XM) : Go.Sy.Tree.holds (vcY (yStepD st I 39) (s,⟨code,th,c,true,false,true,4,3,i,at_,seen,val,value,cause,stamp,made,2,1,ybse,ybsp,rs,ws,asked,rows,
 old,W,steps,lk,la,lv,ls,ld⟩) (hpF o 0 37)) = (
 clockD.pre (mp1,()) ∧ inD.pre (Mw.mk W,(0 : Int),()) ∧ Bd 2 ((0 : Int)) (↑W.length : Int) (((at0 W (0 : Int) == ybse) = true → Bd 2 ((0 : Int)) (↑W.length : Int) (((at0 W (0 : Int) == ybse) = true → (decide
 (i64.wrap (ybse + 1) > 1000) = true → (((↑old.length : Int) == 0) = true → LfY (qNy st s) (dsF o 36 21 ++ dsF o 8 9) 0 th c false false true (5 : Int) 0 0 at_ seen val value (5 : Int) stamp (0 : Int) 2 9 ybse (i64.wrap (ybse + 1)) rs ws asked rows old (W.set (0 : Nat)
 (i64.wrap (ybse + 1))) (i64.wrap (steps + 1)) 3 0 (i64.wrap (ybse + 1)) (at0 W (0 : Int)) (at0 W (0 : Int) == ybse)) ∧ (((↑old.length : Int) == 0) = false → LfY (qNy st s) (dsF o 36 21 ++ dsF o 8 9) 0 th c false false true (5 : Int) 0 0 at_ seen val value (5
 : Int) stamp (0 : Int) 2 9 ybse (i64.wrap (ybse + 1)) rs ws asked rows old (W.set (0 : Nat) (i64.wrap (ybse + 1))) (i64.wrap (steps + 1)) 3 0 (i64.wrap
 (ybse + 1)) (at0 W (0 : Int)) (at0 W (0 : Int) == ybse))) ∧ (decide (i64.wrap (ybse + 1) > 1000) = false → (((↑rs.length : Int) == 0) = true → (decide ((↑ws.length : Int) > 0) = true → LfY (qNy st s) (dsF o 36 21 ++ dsF o 8 9) 0 th c true true true (4 : Int) 6 0 at_ seen val value cause
 stamp (i64.wrap (ybse + 1)) 2 9 ybse (i64.wrap (ybse + 1)) rs ws asked rows old (W.set (0 : Nat) (i64.wrap (ybse + 1))) (i64.wrap (steps + 1)) 3 0
 (i64.wrap (ybse + 1)) (at0 W (0 : Int)) (at0 W (0 : Int) == ybse)) ∧ (decide ((↑ws.length : Int) > 0) = false → LfY (qNy st s) (dsF o 36 21 ++ dsF o 8 9) 0 th c true true true (4 : Int) 8 0 at_ seen val value cause stamp (i64.wrap (ybse + 1)) 2 9 ybse (i64.wrap
 (ybse + 1)) rs ws asked rows old (W.set (0 : Nat) (i64.wrap (ybse + 1))) (i64.wrap (steps + 1)) 3 0 (i64.wrap (ybse + 1)) (at0 W (0 : Int)) (at0 W (0 : Int) == ybse))) ∧
 (((↑rs.length : Int) == 0) = false → LfY (qNy st s) (dsF o 36 21 ++ dsF o 8 9) 0 th c true false
 true (4 : Int) 4 0 at_ seen val value cause stamp (i64.wrap (ybse + 1)) 2 9 ybse (i64.wrap (ybse + 1)) rs ws asked rows old (W.set (0 : Nat) (i64.wrap (ybse + 1)))
 (i64.wrap (steps + 1)) 3 0 (i64.wrap (ybse + 1)) (at0 W (0 : Int)) (at0 W (0 : Int) == ybse)))) ∧ ((at0 W (0 : Int) == ybse) = false → (decide (at0 W (0 : Int) > 1000) = true →
 (((↑old.length : Int) == 0) = true → LfY (qNy st s) (dsF o 36 21 ++ dsF o 8 9) 0 th c false false
 true (5 : Int) 0 0 at_ seen val value (5 : Int) stamp (0 : Int) 2 9 ybse (at0 W (0 : Int)) rs ws asked rows old (W.set (0 : Nat) (i64.wrap (ybse + 1))) (i64.wrap (steps +
 1)) 3 0 (i64.wrap (ybse + 1)) (at0 W (0 : Int)) (at0 W (0 : Int) == ybse)) ∧ (((↑old.length : Int) == 0) = false → LfY (qNy st s) (dsF o 36 21 ++ dsF o 8 9) 0 th c false false true (5 : Int) 0 0 at_ seen val value (5 : Int) stamp (0 : Int) 2 9 ybse (at0 W (0 :
 Int)) rs ws asked rows old (W.set (0 : Nat) (i64.wrap (ybse + 1))) (i64.wrap (steps + 1)) 3 0 (i64.wrap (ybse + 1)) (at0 W (0 : Int)) (at0 W (0 : Int) == ybse))) ∧ (decide (at0 W
 0 > 1000) = false → (((↑rs.length : Int) == 0) = true → (decide ((↑ws.length : Int) > 0) = true → LfY (qNy st s) (dsF o 36 21 ++ dsF o 8 9) 0 th c true true true (4 : Int) 6 0 at_ seen val value cause stamp (at0 W (0 : Int)) 2 9 ybse (at0 W (0 : Int)) rs ws asked rows old
 (W.set (0 : Nat) (i64.wrap (ybse + 1))) (i64.wrap (steps + 1)) 3 0 (i64.wrap (ybse + 1)) (at0 W (0 : Int)) (at0 W (0 : Int) == ybse)) ∧ (decide ((↑ws.length : Int) > 0) = false →
 LfY (qNy st s) (dsF o 36 21 ++ dsF o 8 9) 0 th c true true true (4 : Int) 8 0 at_
 seen val value cause stamp (at0 W (0 : Int)) 2 9 ybse (at0 W (0 : Int)) rs ws asked rows old (W.set (0 : Nat) (i64.wrap (ybse + 1))) (i64.wrap (steps + 1)) 3 0
 (i64.wrap (ybse + 1)) (at0 W (0 : Int)) (at0 W (0 : Int) == ybse))) ∧ (((↑rs.length : Int) == 0) = false → LfY (qNy st s) (dsF o 36 21 ++ dsF o 8 9) 0 th c true false true (4 : Int) 4 0 at_ seen val value cause stamp (at0 W (0 : Int)) 2 9 ybse (at0 W (0 : Int)) rs ws asked rows
 old (W.set (0 : Nat) (i64.wrap (ybse + 1))) (i64.wrap (steps + 1)) 3 0 (i64.wrap (ybse + 1)) (at0 W (0 : Int)) (at0 W (0 : Int) == ybse)))))) ∧ ((at0 W (0 : Int) == ybse) = false →
 ((at0 W (0 : Int) == ybse) = true → (decide (i64.wrap (ybse + 1) > 1000) = true → (((↑old.length : Int) == 0) = true → LfY (qNy st s) (dsF o 36 21 ++ dsF o 8 9) 0 th c false false true (5 : Int) 0 0 at_ seen val value (5 : Int) stamp (0 : Int) 2 9 ybse (i64.wrap
 (ybse + 1)) rs ws asked rows old W (i64.wrap (steps + 1)) 3 0 (i64.wrap (ybse + 1)) (at0 W (0 : Int)) (at0 W (0 : Int) == ybse)) ∧ (((↑old.length : Int) == 0) = false → LfY (qNy st s)
 (dsF o 36 21 ++ dsF o 8 9) 0 th c false false true (5 : Int) 0 0 at_ seen val
 value (5 : Int) stamp (0 : Int) 2 9 ybse (i64.wrap (ybse + 1)) rs ws asked rows old W (i64.wrap (steps + 1)) 3 0 (i64.wrap (ybse + 1)) (at0 W (0 : Int)) (at0 W (0 :
 Int) == ybse))) ∧ (decide (i64.wrap (ybse + 1) > 1000) = false → (((↑rs.length : Int) == 0) = true → (decide ((↑ws.length : Int) > 0) = true → LfY (qNy st s) (dsF o 36 21 ++ dsF o 8 9) 0 th c true true true (4 : Int) 6 0 at_ seen val value cause stamp (i64.wrap (ybse + 1)) 2 9 ybse (i64.wrap (ybse + 1)) rs ws asked rows old W (i64.wrap (steps + 1)) 3 0 (i64.wrap (ybse + 1)) (at0 W (0 : Int)) (at0 W (0 : Int) == ybse)) ∧ (decide
 ((↑ws.length : Int) > 0) = false → LfY (qNy st s) (dsF o 36 21 ++ dsF o 8 9) 0 th c true true
 true (4 : Int) 8 0 at_ seen val value cause stamp (i64.wrap (ybse + 1)) 2 9 ybse (i64.wrap (ybse + 1)) rs ws asked rows old W (i64.wrap (steps + 1)) 3 0 (i64.wrap (ybse + 1)) (at0 W (0 : Int)) (at0 W (0 : Int) == ybse))) ∧ (((↑rs.length : Int) == 0) = false → LfY (qNy st s) (dsF o 36 21 ++ dsF o 8 9) 0 th c true false true (4 : Int) 4 0 at_ seen val value cause stamp (i64.wrap (ybse + 1)) 2 9 ybse (i64.wrap
 (ybse + 1)) rs ws asked rows old W (i64.wrap (steps + 1)) 3 0 (i64.wrap (ybse + 1)) (at0 W (0 : Int)) (at0 W (0 : Int) == ybse)))) ∧ ((at0 W (0 : Int) == ybse) = false → (decide (at0 W (0
 : Int) > 1000) = true → (((↑old.length : Int) == 0) = true → LfY (qNy st s) (dsF o 36 21 ++ dsF o 8 9) 0 th c false false true (5 : Int) 0 0 at_ seen val value (5 : Int) stamp (0 : Int) 2 9 ybse (at0 W (0 : Int)) rs ws asked rows old W (i64.wrap (steps + 1)) 3 0
 (i64.wrap (ybse + 1)) (at0 W (0 : Int)) (at0 W (0 : Int) == ybse)) ∧ (((↑old.length : Int) == 0) = false → LfY (qNy st s) (dsF o 36 21 ++ dsF o 8 9) 0 th c false false true (5 : Int) 0 0 at_ seen val value (5 : Int) stamp (0 : Int) 2 9 ybse (at0 W (0 : Int)) rs ws asked rows
 old W (i64.wrap (steps + 1)) 3 0 (i64.wrap (ybse + 1)) (at0 W (0 : Int)) (at0 W (0 : Int) == ybse))) ∧ (decide (at0 W (0 : Int) > 1000) = false → (((↑rs.length : Int) == 0) = true →
 (decide ((↑ws.length : Int) > 0) = true → LfY (qNy st s) (dsF o 36 21 ++ dsF o 8 9) 0 th c true
 true true (4 : Int) 6 0 at_ seen val value cause stamp (at0 W (0 : Int)) 2 9 ybse (at0 W (0 : Int)) rs ws asked rows old W (i64.wrap (steps + 1)) 3 0
 (i64.wrap (ybse + 1)) (at0 W (0 : Int)) (at0 W (0 : Int) == ybse)) ∧ (decide ((↑ws.length : Int) > 0) = false → LfY (qNy st s) (dsF o 36 21 ++ dsF o 8 9) 0 th c true true true (4 : Int) 8 0 at_ seen val value cause stamp (at0 W (0 : Int)) 2 9 ybse (at0 W (0 : Int)) rs ws asked
 rows old W (i64.wrap (steps + 1)) 3 0 (i64.wrap (ybse + 1)) (at0 W (0 : Int)) (at0 W (0 : Int) == ybse))) ∧ (((↑rs.length : Int) == 0) = false → LfY (qNy st s) (dsF o 36 21 ++ dsF o 8 9) 0 th c true false true (4 : Int) 4 0 at_ seen val value cause stamp (at0 W (0 :
 Int)) 2 9 ybse (at0 W (0 : Int)) rs ws asked rows old W (i64.wrap (steps + 1)) 3 0 (i64.wrap (ybse + 1)) (at0 W (0 : Int)) (at0 W (0 : Int) == ybse))))))) := by kernel_rfl
theorem ys_k_ok (I : XM → Prop) (hW : W.length = 34) (hw9 : ws.length ≤ 9) : Paid (vcY (yStepD stepX I 39) (⟨code,th,c,1,4,7,i,at_,row,seen,val,value,cause,stamp,made,2,1,bse,bsp,true,rs,ws,asked,rows,tk,W,steps,lk,la,lv,ls,ld,2,1,bse,bsp⟩,⟨code,th,c,true,false,true,4,3,i,at_,seen,val,value,cause,stamp,made,2,1,bse,bsp,rs,ws,asked,rows,tk.map (·.vl),W,steps,lk,la,lv,ls,ld⟩) (hpF o 0 37)) := by
 refine ⟨?_⟩
 rw [ys_k]
 refine ⟨rfl,(in34 hW (show 0 ≤ 0 by omega) (show (0 : Int) < 34 by omega)),bd (show 0 ≤ 0 by omega) (by rw [hW]; omega) ?_ 2⟩
 refine ⟨?_, ?_⟩
 ·intro h1
  refine bd (show 0 ≤ 0 by omega) (by rw [hW]; omega) ?_ 2
  refine ⟨?_, ?_⟩
  ·intro h2
   refine ⟨?_, ?_⟩
   ·intro h3
    have h3g := qb h3
    have h4 : gtB (i64.wrap (bse + 1)) ((1000 : Int)) = true := gtB_t (by omega)
    refine ⟨?_, ?_⟩
    ·intro h5
     rw [qh] at h5
     have h5g := eq_of_beq h5
     first | exact deadL | ((try clear h5g); exact lfyB rfl (ny2 7 rfl))
    ·intro h6
     rw [qh] at h6
     have h6g := ne_of_beq_false h6
     first | exact deadL | ((try clear h5g); exact lfyB rfl (ny2 7 rfl))
   ·intro h7
    have h7g := qc h7
    have h8 : gtB (i64.wrap (bse + 1)) ((1000 : Int)) = false := gtB_f (by omega)
    refine ⟨?_, ?_⟩
    ·intro h9
     have h9g := eq_of_beq h9
     have h10 : ltB (0) ((rs.length : Int)) = false := ltB_f (by omega)
     refine ⟨?_, ?_⟩
     ·intro h11
      have h11g := qb h11
      have h12 : ltB (0) ((ws.length : Int)) = true := ltB_t (by omega)
      have h13 : gtB ((ws.length : Int)) (0) = true := gtB_t (by omega)
      first | exact deadL | ((try clear h5g); (try clear h9g); exact lfyB rfl (ny2 7 rfl))
     ·intro h14
      have h14g := qc h14
      have h15 : ltB (0) ((ws.length : Int)) = false := ltB_f (by omega)
      have h16 : gtB ((ws.length : Int)) (0) = false := gtB_f (by omega)
      first | exact deadL | ((try clear h5g); (try clear h9g); exact lfyB rfl (ny2 7 rfl))
    ·intro h17
     have h17g := ne_of_beq_false h17
     have h18 : ltB (0) ((rs.length : Int)) = true := ltB_t (by omega)
     first | exact deadL | ((try clear h5g); (try clear h9g); exact lfyB rfl (ny2 7 rfl))
  ·intro h19
   exact absurd (h1.symm.trans h19) (by decide)
 ·intro h20
  refine ⟨?_, ?_⟩
  ·intro h21
   exact absurd (h20.symm.trans h21) (by decide)
  ·intro h22
   refine ⟨?_, ?_⟩
   ·intro h23
    have h23g := qb h23
    have h24 : gtB (at0 W (0 : Int)) ((1000 : Int)) = true := gtB_t (by omega)
    refine ⟨?_, ?_⟩
    ·intro h25
     rw [qh] at h25
     have h25g := eq_of_beq h25
     first | exact deadL | ((try clear h5g); (try clear h9g); (try clear h25g); exact lfyB rfl (ny2 7 rfl))
    ·intro h26
     rw [qh] at h26
     have h26g := ne_of_beq_false h26
     first | exact deadL | ((try clear h5g); (try clear h9g); (try clear h25g); exact lfyB rfl (ny2 7 rfl))
   ·intro h27
    have h27g := qc h27
    have h28 : gtB (at0 W (0 : Int)) ((1000 : Int)) = false := gtB_f (by omega)
    refine ⟨?_, ?_⟩
    ·intro h29
     have h29g := eq_of_beq h29
     have h30 : ltB (0) ((rs.length : Int)) = false := ltB_f (by omega)
     refine ⟨?_, ?_⟩
     ·intro h31
      have h31g := qb h31
      have h32 : ltB (0) ((ws.length : Int)) = true := ltB_t (by omega)
      have h33 : gtB ((ws.length : Int)) (0) = true := gtB_t (by omega)
      first | exact deadL | ((try clear h5g); (try clear h9g); (try clear h25g); (try clear h29g); exact lfyB rfl (ny2 7 rfl))
     ·intro h34
      have h34g := qc h34
      have h35 : ltB (0) ((ws.length : Int)) = false := ltB_f (by omega)
      have h36 : gtB ((ws.length : Int)) (0) = false := gtB_f (by omega)
      first | exact deadL | ((try clear h5g); (try clear h9g); (try clear h25g); (try clear h29g); exact lfyB rfl (ny2 7 rfl))
    ·intro h37
     have h37g := ne_of_beq_false h37
     have h38 : ltB (0) ((rs.length : Int)) = true := ltB_t (by omega)
     first | exact deadL | ((try clear h5g); (try clear h9g); (try clear h25g); (try clear h29g); exact lfyB rfl (ny2 7 rfl))
end Go.Proofs.YtmjjljngaefpaaaGreat

/- Tl2Two: a step of the reference's attempt, from each of its states. -/
import Derived.Test.YtmjjljngaefpaaaGreatYl
namespace Go.Proofs.YtmjjljngaefpaaaGreat
open Go.RowKit Go.Am Go.Sy
open Go.IntKind (i64 u64)
set_option linter.unusedVariables false
set_option linter.unusedSimpArgs false
variable (code th c part : Int) (i : Nat) (at_ row seen val value cause stamp made bk bst bse bsp : Int) (ph ld : Bool) (rs ws tk : List Wo) (rows old W : List Int) (asked steps lk la lv ls ybk ybst ybse ybsp : Int)
variable (o : Nat → Option Ob)
theorem ys_b (st : XM → XM) (I : XM → Prop) (s : XM) : Go.Sy.Tree.holds (vcY (yStepD st I 39) (s,⟨code,th,c,true,false,false,1,0,i,at_,seen,val,value,cause,stamp,made,ybk,ybst,ybse,ybsp,rs,ws,asked,
 rows,old,W,steps,lk,la,lv,ls,ld⟩) (hpF o 0 37)) =
 ( clockD.pre (mp1,()) ∧ inD.pre (Mw.mk W,(0 : Int),()) ∧ Bd 6 ((0 : Int)) (↑W.length : Int) (LfY (qNy st s) (dsF o 36 21 ++ dsF o 8 9) 1 th c true false false (0 : Int) 0 (↑i : Int) at_ seen val value cause (at0 W (0 : Int)) made ybk ybst ybse ybsp rs ws asked rows old W (i64.wrap (steps + 1)) 1 0 (at0 W (0 : Int)) (at0 W (0 : Int)) true)) := by kernel_rfl
theorem ys_b_ok (I : XM → Prop) (hW : W.length = 34) : Paid (vcY (yStepD stepX I 39) (⟨code,th,c,1,1,0,i,at_,row,seen,val,value,cause,stamp,made,bk,bst,bse,bsp,false,rs,ws,asked,rows,tk,W,steps,lk,la,lv,ls,ld,ybk,ybst,ybse,ybsp⟩,⟨code,th,c,true,false,false,1,0,i,at_,seen,val,value,cause,stamp,made,ybk,ybst,ybse,ybsp,rs,ws,asked,rows,tk.map (·.vl),W,steps,lk,la,lv,ls,ld⟩) (hpF o 0 37)) := by
 refine ⟨?_⟩
 rw [ys_b]
 refine ⟨rfl,(in34 hW (show 0 ≤ 0 by omega) (show (0 : Int) < 34 by omega)),bd (show 0 ≤ 0 by omega) (by rw [hW]; omega) ?_ 6⟩
 first | exact deadL | exact lfyB rfl (ny1 1 rfl)
theorem ys_r0 (st : XM → XM) (I : XM → Prop) (s : XM) : Go.Sy.Tree.holds (vcY (yStepD st I 39) (s,⟨code,th,c,true,false,false,2,0,i,at_,seen,val,value,cause,stamp,made,ybk,ybst,ybse,ybsp,rs,ws,
 asked,rows,old,W,steps,lk,la,lv,ls,ld⟩) (hpF o 0 37)) = ( hashD.pre (mp1,at_,()) ∧ stripeD.pre (mp1,hashT at_,()) ∧ inD.pre (Mw.mk W,2 + hashT at_,()) ∧ Bd 6 ((2 : Int) + hashT at_) (↑W.length : Int) (freshD.pre (at0 W ((2 : Int) + hashT at_),stamp,())
 ∧ ((freshT (at0 W ((2 : Int) + hashT at_)) stamp != 0) = true → (((↑old.length : Int) == 0) = true → LfY (qNy st s) (dsF o 36 21 ++ dsF o 8 9) 2 th c false false false (0 : Int) 0 0 at_ (at0 W ((2 : Int) + hashT at_)) val value (freshT (at0 W ((2 : Int) + hashT at_)) stamp) stamp (0 : Int) ybk
 ybst ybse ybsp rs ws asked rows old W (i64.wrap (steps + 1)) 1 ((2 : Int) + hashT at_) (at0 W ((2 : Int) + hashT at_)) (at0 W ((2 : Int) + hashT at_)) true) ∧ (((↑old.length : Int) == 0) = false → LfY
 (qNy st s) (dsF o 36 21 ++ dsF o 8 9) 0 th c false false false (5 : Int) 0 0 at_
 (at0 W ((2 : Int) + hashT at_)) val value (freshT (at0 W ((2 : Int) + hashT at_)) stamp) stamp (0 : Int) ybk ybst ybse ybsp rs ws asked rows old W (i64.wrap (steps + 1)) 1 ((2 : Int) + hashT at_) (at0 W
 ((2 : Int) + hashT at_)) (at0 W ((2 : Int) + hashT at_)) true)) ∧ ((freshT (at0 W ((2 : Int) + hashT at_)) stamp != 0) = false → LfY (qNy st s) (dsF o 36 21 ++ dsF o 8 9) 0 th c true false false (2 : Int) 1 (↑i : Int) at_ (at0 W ((2 : Int) + hashT at_)) val value cause stamp made ybk ybst ybse ybsp rs ws
 asked rows old W (i64.wrap (steps + 1)) 1 ((2 : Int) + hashT at_) (at0 W ((2 : Int) + hashT at_)) (at0 W ((2 : Int) + hashT at_)) true))) := by kernel_rfl
theorem ys_r0_ok (I : XM → Prop) (hW : W.length = 34) (hst : ∀ r : Int,0 ≤ r → r < 3 → 0 ≤ at0 W (2 + r) ∧ at0 W (2 + r) < 1099511627776) (hat : isData at_) (htk : tk.length = 0) : Paid (vcY (yStepD stepX I 39) (⟨code,th,c,1,2,0,i,at_,hashT at_,seen,val,value,cause,stamp,made,bk,bst,bse,bsp,false,rs,ws,asked,rows,tk,W,steps,lk,la,lv,ls,ld,ybk,ybst,ybse,ybsp⟩,⟨code,th,c,true,false,false,2,0,i,at_,seen,val,value,cause,stamp,made,ybk,ybst,ybse,ybsp,rs,ws,asked,rows,tk.map (·.vl),W,steps,lk,la,lv,ls,ld⟩) (hpF o 0 37)) := by
 have ha := hash_ge hat
 have hb := hst _ ha.1 ha.2
 refine ⟨?_⟩
 rw [ys_r0]
 refine ⟨⟨rfl,hat⟩,⟨rfl,(show 0 ≤ hashT at_ by omega),(show hashT at_ < 3 by omega)⟩,(in34 hW (show 0 ≤ 2 + hashT at_ by omega) (show (2 : Int) + hashT at_ < 34 by omega)),bd (show 0 ≤ 2 + hashT at_ by omega) (by rw [hW]; omega) ?_ 6⟩
 refine ⟨hb, ?_, ?_⟩
 ·intro h1
  refine ⟨?_, ?_⟩
  ·intro h2
   rw [qh] at h2
   have h2g := eq_of_beq h2
   first | exact deadL | ((try clear h2g); exact lfyB rfl (ny1 2 rfl))
  ·intro h3
   rw [qh] at h3
   have h3g := ne_of_beq_false h3
   first | exact deadL | ((try clear h2g); exact lfyB rfl (ny1 2 rfl))
 ·intro h4
  first | exact deadL | ((try clear h2g); exact lfyB rfl (ny1 2 rfl))
theorem ys_r1 (st : XM → XM) (I : XM → Prop) (s : XM) : Go.Sy.Tree.holds (vcY (yStepD st I 39) (s,⟨code,th,c,true,false,false,2,1,i,at_,seen,val,value,cause,stamp,made,ybk,ybst,ybse,ybsp,rs,ws,
 asked,rows,old,W,steps,lk,la,lv,ls,ld⟩) (hpF o 0 37)) = ( hashD.pre (mp1,at_,()) ∧ stripeD.pre (mp1,hashT at_,()) ∧ inD.pre (Mw.mk W,at_,()) ∧ Bd 6 (at_) (↑W.length : Int) (LfY (qNy st s) (dsF o 36 21 ++ dsF o 8 9) 0 th c true false false (2 : Int) 2 (↑i : Int) at_ seen (at0 W at_) value cause stamp made ybk ybst ybse ybsp rs ws asked rows old W
 (i64.wrap (steps + 1)) 1 at_ (at0 W at_) (at0 W at_) true)) := by kernel_rfl
theorem ys_r1_ok (I : XM → Prop) (hW : W.length = 34) (hat : isData at_) : Paid (vcY (yStepD stepX I 39) (⟨code,th,c,1,2,1,i,at_,hashT at_,seen,val,value,cause,stamp,made,bk,bst,bse,bsp,false,rs,ws,asked,rows,tk,W,steps,lk,la,lv,ls,ld,ybk,ybst,ybse,ybsp⟩,⟨code,th,c,true,false,false,2,1,i,at_,seen,val,value,cause,stamp,made,ybk,ybst,ybse,ybsp,rs,ws,asked,rows,tk.map (·.vl),W,steps,lk,la,lv,ls,ld⟩) (hpF o 0 37)) := by
 have ha := hash_ge hat
 have hd := data_lt hat
 refine ⟨?_⟩
 rw [ys_r1]
 refine ⟨⟨rfl,hat⟩,⟨rfl,(show 0 ≤ hashT at_ by omega),(show hashT at_ < 3 by omega)⟩,(in34 hW (show 0 ≤ at_ by omega) (show at_ < 34 by omega)),bd (show 0 ≤ at_ by omega) (by rw [hW]; omega) ?_ 6⟩
 first | exact deadL | exact lfyB rfl (ny1 2 rfl)
theorem ys_r2 (st : XM → XM) (I : XM → Prop) (s : XM) : Go.Sy.Tree.holds (vcY (yStepD st I 39) (s,⟨code,th,c,true,false,false,2,2,i,at_,seen,val,value,cause,stamp,made,ybk,ybst,ybse,ybsp,rs,ws,
 asked,rows,old,W,steps,lk,la,lv,ls,ld⟩) (hpF o 0 37)) = ( hashD.pre (mp1,at_,()) ∧ stripeD.pre (mp1,hashT at_,()) ∧ inD.pre (Mw.mk W,2 + hashT at_,()) ∧ Bd 6 ((2 : Int) + hashT at_) (↑W.length : Int) (((at0 W ((2 : Int) + hashT at_) != seen) = true →
 (((↑old.length : Int) == 0) = true → LfY (qNy st s) (dsF o 36 21 ++ dsF o 8 9) 2 th c false false
 false (0 : Int) 0 0 at_ seen val value (2 : Int) stamp (0 : Int) ybk ybst ybse ybsp rs ws asked rows old W (i64.wrap (steps + 1)) 1 ((2 : Int) + hashT at_) (at0 W ((2 : Int) + hashT at_))
 (at0 W ((2 : Int) + hashT at_)) true) ∧ (((↑old.length : Int) == 0) = false → LfY (qNy st s) (dsF o 36 21 ++ dsF o 8 9) 0 th c false false false (5 : Int) 0 0 at_ seen val value (2 : Int) stamp (0 : Int) ybk ybst ybse ybsp rs ws asked rows old W (i64.wrap (steps + 1)) 1 ((2 : Int) +
 hashT at_) (at0 W ((2 : Int) + hashT at_)) (at0 W ((2 : Int) + hashT at_)) true)) ∧ ((at0 W ((2 : Int) + hashT at_) != seen) = false → (decide ((↑i : Int) < 0) = true → LfY (qNy st s) (dsF o 36 21 ++ dsF o 8 9) 0 th c true false false (2 : Int) 3 (↑i : Int) at_ seen val value cause stamp made ybk ybst ybse
 ybsp rs ws asked rows old W (i64.wrap (steps + 1)) 1 ((2 : Int) + hashT at_) (at0 W ((2 : Int) + hashT at_)) (at0 W ((2 : Int) + hashT at_)) true) ∧ (decide ((↑i : Int) < 0) = false → hashD.pre (mp1,at_,
 ()) ∧ roomD.pre (Rs.mk (32 : Int) rs,hashT at_,()) ∧ seekD.pre (rs,hashT at_,()) ∧ (decide (findT rs (hashT at_) < 0) = true → (rs.length + [Wo.mk (hashT at_) 0].length) * 16 ≤ 140737488355328 ∧ LfY (qNy st
 s) (dsF o 36 21 ++ dsF o 8 9) 1 th c true false false (0 : Int) 3 (↑i : Int) at_ seen val
 val cause stamp made ybk ybst ybse ybsp (rs ++ [Wo.mk (hashT at_) 0]) ws asked rows old W (i64.wrap (steps + 1)) 1 ((2 : Int) + hashT at_) (at0 W ((2 : Int) + hashT at_)) (at0 W ((2 : Int) + hashT
 at_)) true) ∧ (decide (findT rs (hashT at_) < 0) = false → LfY (qNy st s) (dsF o 36 21 ++ dsF o 8 9) 1 th c true false false (0 : Int) 3 (↑i : Int) at_ seen val val cause stamp made ybk ybst ybse ybsp rs ws asked rows old W (i64.wrap (steps + 1)) 1 ((2 : Int) + hashT at_) (at0 W ((2 : Int) +
 hashT at_)) (at0 W ((2 : Int) + hashT at_)) true))))) := by kernel_rfl
theorem ys_r2_ok (I : XM → Prop) (hW : W.length = 34) (hat : isData at_) (htk : tk.length = 0) (hrs : rs.length ≤ 9) : Paid (vcY (yStepD stepX I 39) (⟨code,th,c,1,2,2,i,at_,hashT at_,seen,val,value,cause,stamp,made,bk,bst,bse,bsp,false,rs,ws,asked,rows,tk,W,steps,lk,la,lv,ls,ld,ybk,ybst,ybse,ybsp⟩,⟨code,th,c,true,false,false,2,2,i,at_,seen,val,value,cause,stamp,made,ybk,ybst,ybse,ybsp,rs,ws,asked,rows,tk.map (·.vl),W,steps,lk,la,lv,ls,ld⟩) (hpF o 0 37)) := by
 have ha := hash_ge hat
 refine ⟨?_⟩
 rw [ys_r2]
 refine ⟨⟨rfl,hat⟩,⟨rfl,(show 0 ≤ hashT at_ by omega),(show hashT at_ < 3 by omega)⟩,(in34 hW (show 0 ≤ 2 + hashT at_ by omega) (show (2 : Int) + hashT at_ < 34 by omega)),bd (show 0 ≤ 2 + hashT at_ by omega) (by rw [hW]; omega) ?_ 6⟩
 refine ⟨?_, ?_⟩
 ·intro h1
  refine ⟨?_, ?_⟩
  ·intro h2
   rw [qh] at h2
   have h2g := eq_of_beq h2
   first | exact deadL | ((try clear h2g); exact lfyB rfl (ny1 2 rfl))
  ·intro h3
   rw [qh] at h3
   have h3g := ne_of_beq_false h3
   first | exact deadL | ((try clear h2g); exact lfyB rfl (ny1 2 rfl))
 ·intro h4
  refine ⟨?_, ?_⟩
  ·intro h5
   have h5g := qb h5
   first | exact deadL | ((try clear h2g); exact lfyB rfl (ny1 2 rfl))
  ·intro h6
   have h6g := qc h6
   refine ⟨⟨rfl,hat⟩,⟨rfl,(show rs.length < 32 by omega)⟩,(show rs.length ≤ 1000 by omega), ?_, ?_⟩
   ·intro h7
    have h7g := qb h7
    have h8 := find_lt h7
    refine ⟨(by simp only [qh,qp,List.length_nil]; omega), ?_⟩
    first | exact deadL | ((try clear h2g); exact lfyB rfl (ny1 2 rfl))
   ·intro h9
    have h9g := qc h9
    have h10 := find_lt h9
    first | exact deadL | ((try clear h2g); exact lfyB rfl (ny1 2 rfl))
end Go.Proofs.YtmjjljngaefpaaaGreat

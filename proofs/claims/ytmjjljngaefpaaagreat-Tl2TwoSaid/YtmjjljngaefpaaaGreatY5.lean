/- Tl2Two: a step of the reference's attempt, from each of its states. -/
import Derived.Test.YtmjjljngaefpaaaGreatYl
namespace Go.Proofs.YtmjjljngaefpaaaGreat
open Go.RowKit Go.Am Go.Sy
open Go.IntKind (i64 u64)
set_option linter.unusedVariables false
set_option linter.unusedSimpArgs false
variable (code th c part : Int) (i : Nat) (at_ row seen val value cause stamp made bk bst bse bsp : Int) (ph ld : Bool) (rs ws tk : List Wo) (rows old W : List Int) (asked steps lk la lv ls ybk ybst ybse ybsp : Int)
variable (o : Nat → Option Ob)
theorem ys_m (st : XM → XM) (I : XM → Prop) (s : XM) : Go.Sy.Tree.holds (vcY (yStepD st I 39) (s,⟨code,th,c,true,false,false,4,0,i,at_,seen,val,value,cause,stamp,made,ybk,ybst,ybse,ybsp,rs,ws,asked,
 rows,old,W,steps,lk,la,lv,ls,ld⟩) (hpF o 0 37)) =
 ( threadD.pre (mp1,th,(0 : Int),()) ∧ inD.pre (Mw.mk W,11 + 2 * th,()) ∧ Bd 4 ((11 : Int) + 2 * th) (↑W.length : Int) ((decide ((↑ws.length : Int) > 0) = true → (decide ((0 : Int) < (↑ws.length : Int)) =
 true → Bd 2 ((0 : Int)) (↑ws.length : Int) ((decide ((1 : Int) < (↑ws.length : Int)) = true → Bd 2 ((1 : Int)) (↑ws.length : Int) ((decide ((2 : Int) < (↑ws.length : Int)) = true → Bd 2 ((2 : Int)) (↑ws.length : Int)
 ((decide ((3 : Int) < (↑ws.length : Int)) = true → Bd 2 ((3 : Int)) (↑ws.length : Int) ((decide ((4 : Int) < (↑ws.length : Int)) = true → Bd 2 ((4 : Int)) (↑ws.length : Int) (Stuck "fuel")) ∧ (decide ((4 : Int) <
 (↑ws.length : Int)) = false → rowsLD.pre (mp1,[(at3 ws (0 : Int)).pl,(at3 ws (1 : Int)).pl,(at3 ws (2 : Int)).pl,(at3 ws (3 : Int)).pl],()) ∧ (decide ((↑ws.length : Int) > 0) = true → LfY (qFy st s) (dsF o 36 21 ++ dsF o 8 9) 0 th c true false true (4 : Int) 1 0 at_ seen val value cause stamp
 made ybk ybst ybse ybsp rs ws asked (rowsLD.res (mp1,[(at3 ws (0 : Int)).pl,(at3 ws (1 : Int)).pl,(at3 ws (2 : Int)).pl,(at3 ws (3 : Int)).pl],())) old (W.set ((11 : Int) + 2 * th).toNat (2 : Int)) (i64.wrap
 (steps + 1)) 2 ((11 : Int) + 2 * th) 2 (at0 W ((11 : Int) + 2 * th)) true) ∧ (decide ((↑ws.length : Int) > 0) = false → LfY (qFy st s) (dsF o 36 21 ++ dsF o 8 9) 0 th c true false true (4 : Int) 1 0 at_ seen val value cause stamp made ybk ybst ybse ybsp rs ws asked (rowsLD.res
 (mp1,[(at3 ws (0 : Int)).pl,(at3 ws (1 : Int)).pl,(at3 ws (2 : Int)).pl,(at3 ws (3 : Int)).pl],())) old (W.set ((11 : Int) + 2 * th).toNat (2 : Int)) (i64.wrap (steps + 1)) 2 ((11 : Int) + 2 * th) 2 (at0 W ((11 : Int) + 2 * th)) true)))) ∧ (decide ((3 : Int) < (↑ws.length : Int)) = false → rowsLD.pre (mp1,[(at3 ws (0 : Int)).pl,(at3 ws (1 : Int)).pl,(at3 ws (2 : Int)).pl],()) ∧ (decide ((↑ws.length : Int)
 > 0) = true → LfY (qFy st s) (dsF o 36 21 ++ dsF o 8 9) 0 th c true false true (4 : Int) 1 0 at_ seen val value cause stamp made ybk ybst ybse ybsp rs ws asked (rowsLD.res (mp1,[(at3 ws (0 : Int)).pl,(at3 ws (1 : Int)).pl,(at3 ws (2 : Int)).pl],())) old (W.set ((11 : Int) + 2 * th).toNat (2 :
 Int)) (i64.wrap (steps + 1)) 2 ((11 : Int) + 2 * th) 2 (at0 W ((11 : Int) + 2 * th)) true) ∧ (decide ((↑ws.length : Int) > 0) = false → LfY (qFy st s) (dsF o 36 21 ++ dsF o 8 9) 0 th c true false true (4 : Int) 1 0 at_ seen val value cause stamp made ybk ybst ybse ybsp rs ws
 asked (rowsLD.res (mp1,[(at3 ws (0 : Int)).pl,(at3 ws (1 : Int)).pl,(at3 ws (2 : Int)).pl],())) old (W.set ((11 : Int) + 2 * th).toNat (2 : Int)) (i64.wrap (steps + 1)) 2 ((11 : Int) + 2 * th) 2 (at0 W ((11 : Int) + 2 * th)) true)))) ∧ (decide ((2 : Int) < (↑ws.length : Int)) = false → rowsLD.pre (mp1,[(at3 ws (0 : Int)).pl,(at3 ws (1 : Int)).pl],()) ∧ (decide ((↑ws.length : Int) > 0) = true → LfY (qFy
 st s) (dsF o 36 21 ++ dsF o 8 9) 0 th c true false true (4 : Int) 1 0 at_ seen
 val value cause stamp made ybk ybst ybse ybsp rs ws asked (rowsLD.res (mp1,[(at3 ws (0 : Int)).pl,(at3 ws (1 : Int)).pl],())) old (W.set ((11 : Int) + 2 * th).toNat (2 : Int)) (i64.wrap (steps + 1)) 2
 ((11 : Int) + 2 * th) 2 (at0 W ((11 : Int) + 2 * th)) true) ∧ (decide ((↑ws.length : Int) > 0) = false → LfY (qFy st s) (dsF o 36 21 ++ dsF o 8 9) 0 th c true false true (4 : Int) 1 0 at_ seen val value cause stamp made ybk ybst ybse ybsp rs ws asked (rowsLD.res (mp1,[(at3 ws (0 : Int)).pl,
 (at3 ws (1 : Int)).pl],())) old (W.set ((11 : Int) + 2 * th).toNat (2 : Int)) (i64.wrap (steps + 1)) 2 ((11 : Int) + 2 * th) 2 (at0 W ((11 : Int) + 2 * th)) true)))) ∧ (decide ((1 : Int) <
 (↑ws.length : Int)) = false → rowsLD.pre (mp1,[(at3 ws (0 : Int)).pl],()) ∧ (decide ((↑ws.length : Int) > 0) = true → LfY (qFy st s) (dsF o 36 21 ++ dsF o 8 9) 0 th c true false true (4 : Int) 1 0 at_ seen val value cause stamp made ybk ybst ybse ybsp rs ws asked (rowsLD.res (mp1,[(at3 ws (0 :
 Int)).pl],())) old (W.set ((11 : Int) + 2 * th).toNat (2 : Int)) (i64.wrap (steps + 1)) 2 ((11 : Int) + 2 * th) 2 (at0 W ((11 : Int) + 2 * th)) true) ∧ (decide ((↑ws.length : Int) > 0) = false →
 LfY (qFy st s) (dsF o 36 21 ++ dsF o 8 9) 0 th c true false true (4 : Int) 1 0
 at_ seen val value cause stamp made ybk ybst ybse ybsp rs ws asked (rowsLD.res (mp1,[(at3 ws (0 : Int)).pl],())) old (W.set ((11 : Int) + 2 * th).toNat (2 : Int)) (i64.wrap (steps + 1)) 2 ((11 : Int) +
 2 * th) 2 (at0 W ((11 : Int) + 2 * th)) true)))) ∧ (decide ((0 : Int) < (↑ws.length : Int)) = false → rowsLD.pre (mp1,[],()) ∧ (decide ((↑ws.length : Int) > 0) = true → LfY (qFy st s) (dsF o 36 21 ++ dsF o 8 9) 0 th c true false true (4 : Int) 1 0 at_ seen val value cause stamp made ybk
 ybst ybse ybsp rs ws asked (rowsLD.res (mp1,[],())) old (W.set ((11 : Int) + 2 * th).toNat (2 : Int)) (i64.wrap (steps + 1)) 2 ((11 : Int) + 2 * th) 2 (at0 W ((11 : Int) + 2 * th)) true) ∧
 (decide ((↑ws.length : Int) > 0) = false → LfY (qFy st s) (dsF o 36 21 ++ dsF o 8 9) 0 th c true
 false true (4 : Int) 1 0 at_ seen val value cause stamp made ybk ybst ybse ybsp rs ws asked (rowsLD.res (mp1,[],())) old (W.set ((11 : Int) + 2 * th).toNat (2 : Int)) (i64.wrap (steps + 1)) 2 ((11 : Int) + 2 * th) 2 (at0 W ((11 : Int) + 2 * th)) true))) ∧ (decide ((↑ws.length : Int) > 0) = false → (decide ((↑ws.length : Int) > 0) = true → (decide ((↑ws.length : Int) > 0) = true → LfY (qNy st s)
 (dsF o 36 21 ++ dsF o 8 9) 0 th c true true true (4 : Int) 6 0 at_ seen val value
 cause stamp made ybk ybst ybse ybsp rs ws asked rows old (W.set ((11 : Int) + 2 * th).toNat (2 : Int)) (i64.wrap (steps + 1)) 2 ((11 : Int) + 2 * th) 2 (at0 W ((11 : Int) + 2 * th)) true) ∧
 (decide ((↑ws.length : Int) > 0) = false → LfY (qNy st s) (dsF o 36 21 ++ dsF o 8 9) 0 th c true
 true true (4 : Int) 8 0 at_ seen val value cause stamp made ybk ybst ybse ybsp rs ws asked rows old (W.set ((11 : Int) + 2 * th).toNat (2 : Int)) (i64.wrap (steps + 1)) 2 ((11 : Int) + 2 *
 th) 2 (at0 W ((11 : Int) + 2 * th)) true)) ∧ (decide ((↑ws.length : Int) > 0) = false → (decide ((↑ws.length : Int) > 0) = true → LfY (qNy st s) (dsF o 36 21 ++ dsF o 8 9) 0 th c true true true (4 : Int) 6 0 at_ seen val value cause stamp made ybk ybst ybse ybsp rs ws asked rows old (W.set
 ((11 : Int) + 2 * th).toNat (2 : Int)) (i64.wrap (steps + 1)) 2 ((11 : Int) + 2 * th) 2 (at0 W ((11 : Int) + 2 * th)) true) ∧ (decide ((↑ws.length : Int) > 0) = false → LfY (qNy st s) (dsF o 36 21 ++ dsF o 8 9) 0 th c true true true (4 : Int) 8 0 at_ seen val value cause
 stamp made ybk ybst ybse ybsp rs ws asked rows old (W.set ((11 : Int) + 2 * th).toNat (2 : Int)) (i64.wrap (steps + 1)) 2 ((11 : Int) + 2 * th) 2 (at0 W ((11 : Int) + 2 * th)) true))))) := by
 kernel_rfl
theorem ys_m_ok (I : XM → Prop) (hW : W.length = 34) (hth : th = 0 ∨ th = 2) (hws : ws.length ≤ 4) (hwd : ∀ w ∈ ws,isData w.pl) (hi0 : i = 0) : Paid (vcY (yStepD stepX I 39) (⟨code,th,c,1,4,4,i,at_,row,seen,val,value,cause,stamp,made,bk,bst,bse,bsp,false,rs,ws,asked,rows,tk,W,steps,lk,la,lv,ls,ld,ybk,ybst,ybse,ybsp⟩,⟨code,th,c,true,false,false,4,0,i,at_,seen,val,value,cause,stamp,made,ybk,ybst,ybse,ybsp,rs,ws,asked,rows,tk.map (·.vl),W,steps,lk,la,lv,ls,ld⟩) (hpF o 0 37)) := by
 refine ⟨?_⟩
 rw [ys_m]
 refine ⟨⟨rfl,(show 0 ≤ th by omega),(show th < 3 by omega),rfl⟩,(in34 hW (show 0 ≤ 11 + 2 * th by omega) (show (11 : Int) + 2 * th < 34 by omega)),bd (show 0 ≤ 11 + 2 * th by omega) (by rw [hW]; omega) ?_ 4⟩
 refine ⟨?_, ?_⟩
 ·intro h1
  have h1g := qb h1
  have h2 : ltB (0) ((ws.length : Int)) = true := ltB_t (by omega)
  have h3 : gtB ((ws.length : Int)) (0) = true := gtB_t (by omega)
  refine ⟨?_, ?_⟩
  ·intro h4
   have h4g := qb h4
   refine bd (show 0 ≤ 0 by omega) (by omega) ?_ 2
   refine ⟨?_, ?_⟩
   ·intro h5
    have h5g := qb h5
    refine bd (show 0 ≤ 1 by omega) (by omega) ?_ 2
    refine ⟨?_, ?_⟩
    ·intro h6
     have h6g := qb h6
     refine bd (show 0 ≤ 2 by omega) (by omega) ?_ 2
     refine ⟨?_, ?_⟩
     ·intro h7
      have h7g := qb h7
      refine bd (show 0 ≤ 3 by omega) (by omega) ?_ 2
      refine ⟨?_, ?_⟩
      ·intro h8
       have h8g := qb h8
       refine bd (show 0 ≤ 4 by omega) (by omega) ?_ 2
       exfalso; omega
      ·intro h9
       have h9g := qc h9
       refine ⟨(rowsPre (mapP4 (show ws.length = 4 by omega)) hws hwd), ?_, ?_⟩
       ·intro h10
        first | (exfalso; omega) | exact lfy0 (by simp only [yv,stepX,readX',lockX,markX,bumpX,chX,endX,abX,deX,goX,buX,ldX,stX,swX,adX,tick,h2,h3,h1,h4,h5,h6,h7,h9,hi0,mapP4 (show ws.length = 4 by omega),cond_true,cond_false,Bool.cond_self,Bool.not_true,Bool.not_false,Bool.and_true,Bool.true_and,Bool.and_false,Bool.false_and,qx,eqB,beq_self_eq_true,if_true,if_false,Int.reduceEq,reduceIte]; try rfl) rfl ⟨rfl,rfl,rfl,ne_nil (show 0 < ws.length by omega)⟩
       ·intro h11
        exact absurd (h1.symm.trans h11) (by decide)
     ·intro h12
      have h12g := qc h12
      refine ⟨(rowsPre (mapP3 (show ws.length = 3 by omega)) hws hwd), ?_, ?_⟩
      ·intro h13
       first | (exfalso; omega) | exact lfy0 (by simp only [yv,stepX,readX',lockX,markX,bumpX,chX,endX,abX,deX,goX,buX,ldX,stX,swX,adX,tick,h2,h3,h1,h4,h5,h6,h12,hi0,mapP3 (show ws.length = 3 by omega),cond_true,cond_false,Bool.cond_self,Bool.not_true,Bool.not_false,Bool.and_true,Bool.true_and,Bool.and_false,Bool.false_and,qx,eqB,beq_self_eq_true,if_true,if_false,Int.reduceEq,reduceIte]; try rfl) rfl ⟨rfl,rfl,rfl,ne_nil (show 0 < ws.length by omega)⟩
      ·intro h14
       exact absurd (h1.symm.trans h14) (by decide)
    ·intro h15
     have h15g := qc h15
     refine ⟨(rowsPre (mapP2 (show ws.length = 2 by omega)) hws hwd), ?_, ?_⟩
     ·intro h16
      first | (exfalso; omega) | exact lfy0 (by simp only [yv,stepX,readX',lockX,markX,bumpX,chX,endX,abX,deX,goX,buX,ldX,stX,swX,adX,tick,h2,h3,h1,h4,h5,h15,hi0,mapP2 (show ws.length = 2 by omega),cond_true,cond_false,Bool.cond_self,Bool.not_true,Bool.not_false,Bool.and_true,Bool.true_and,Bool.and_false,Bool.false_and,qx,eqB,beq_self_eq_true,if_true,if_false,Int.reduceEq,reduceIte]; try rfl) rfl ⟨rfl,rfl,rfl,ne_nil (show 0 < ws.length by omega)⟩
     ·intro h17
      exact absurd (h1.symm.trans h17) (by decide)
   ·intro h18
    have h18g := qc h18
    refine ⟨(rowsPre (mapP1 (show ws.length = 1 by omega)) hws hwd), ?_, ?_⟩
    ·intro h19
     first | (exfalso; omega) | exact lfy0 (by simp only [yv,stepX,readX',lockX,markX,bumpX,chX,endX,abX,deX,goX,buX,ldX,stX,swX,adX,tick,h2,h3,h1,h4,h18,hi0,mapP1 (show ws.length = 1 by omega),cond_true,cond_false,Bool.cond_self,Bool.not_true,Bool.not_false,Bool.and_true,Bool.true_and,Bool.and_false,Bool.false_and,qx,eqB,beq_self_eq_true,if_true,if_false,Int.reduceEq,reduceIte]; try rfl) rfl ⟨rfl,rfl,rfl,ne_nil (show 0 < ws.length by omega)⟩
    ·intro h20
     exact absurd (h1.symm.trans h20) (by decide)
  ·intro h21
   have h21g := qc h21
   refine ⟨(rowsPre (ws := []) rfl (by decide) (fun x h => by cases h)), ?_, ?_⟩
   ·intro h22
    first | exact deadL | exact lfyB rfl ⟨rfl,rfl,rfl,ne_nil (show 0 < ws.length by omega)⟩
   ·intro h23
    exact absurd (h1.symm.trans h23) (by decide)
 ·intro h24
  have h24g := qc h24
  have h25 : ltB (0) ((ws.length : Int)) = false := ltB_f (by omega)
  have h26 : gtB ((ws.length : Int)) (0) = false := gtB_f (by omega)
  refine ⟨?_, ?_⟩
  ·intro h27
   exact absurd (h24.symm.trans h27) (by decide)
  ·intro h28
   refine ⟨?_, ?_⟩
   ·intro h29
    exact absurd (h24.symm.trans h29) (by decide)
   ·intro h30
    first | exact deadL | exact lfyB rfl ⟨rfl,(fun h => h.2.2 (show ws = [] from qu (by omega)))⟩
end Go.Proofs.YtmjjljngaefpaaaGreat

/- Tl2Two: a step of the reference's attempt, from each of its states. -/
import Derived.Test.YtmjjljngaefpaaaGreatYl
namespace Go.Proofs.YtmjjljngaefpaaaGreat
open Go.RowKit Go.Am Go.Sy
open Go.IntKind (i64 u64)
set_option linter.unusedVariables false
set_option linter.unusedSimpArgs false
variable (code th c part : Int) (i : Nat) (at_ row seen val value cause stamp made bk bst bse bsp : Int) (ph ld : Bool) (rs ws tk : List Wo) (rows old W : List Int) (asked steps lk la lv ls ybk ybst ybse ybsp : Int)
variable (o : Nat → Option Ob)
theorem ys_c1 (st : XM → XM) (I : XM → Prop) (s : XM) : Go.Sy.Tree.holds (vcY (yStepD st I 39) (s,⟨code,th,c,true,false,true,4,4,i,at_,seen,val,value,cause,stamp,made,1,9,ybse,ybsp,rs,ws,asked,
 rows,old,W,steps,lk,la,lv,ls,ld⟩) (hpF o 0 37)) =
 ( Bd 2 ((↑i : Int)) (↑rs.length : Int) (stripeD.pre (mp1,(at3 rs (↑i : Int)).pl,()) ∧ inD.pre (Mw.mk W,2 + (at3 rs (↑i : Int)).pl,()) ∧ Bd 6 ((2 : Int) + (at3 rs (↑i : Int)).pl) (↑W.length : Int) (holderD.pre
 (at0 W ((2 : Int) + (at3 rs (↑i : Int)).pl),()) ∧ (decide (at0 W ((2 : Int) + (at3 rs (↑i : Int)).pl) % 16 - 1 ≥ 0) = true → ((at0 W ((2 : Int) + (at3 rs (↑i : Int)).pl) % 16 - 1 != th) = true →
 (((↑old.length : Int) == 0) = true → LfY (qNy st s) (dsF o 36 21 ++ dsF o 8 9) 0 th c false false
 true (5 : Int) 0 0 at_ seen val value (1 : Int) stamp (0 : Int) 1 9 ybse ybsp rs ws asked rows old W (i64.wrap (steps + 1)) 1 ((2 : Int) + (at3 rs (↑i : Int)).pl) (at0 W
 ((2 : Int) + (at3 rs (↑i : Int)).pl)) (at0 W ((2 : Int) + (at3 rs (↑i : Int)).pl)) true) ∧ (((↑old.length : Int) == 0) = false → LfY (qNy st s) (dsF o 36 21 ++ dsF o 8 9) 0 th c false false true (5 : Int) 0 0 at_ seen val value (1 : Int) stamp (0 : Int) 1 9 ybse ybsp rs ws asked rows
 old W (i64.wrap (steps + 1)) 1 ((2 : Int) + (at3 rs (↑i : Int)).pl) (at0 W ((2 : Int) + (at3 rs (↑i : Int)).pl)) (at0 W ((2 : Int) + (at3 rs (↑i : Int)).pl)) true)) ∧ ((at0 W ((2 : Int) + (at3 rs (↑i :
 Int)).pl) % 16 - 1 != th) = false → versionD.pre (at0 W ((2 : Int) + (at3 rs (↑i : Int)).pl),()) ∧ (decide (at0 W ((2 : Int) + (at3 rs (↑i : Int)).pl) / 16 > stamp) = true → (((↑old.length : Int) == 0) =
 true → LfY (qNy st s) (dsF o 36 21 ++ dsF o 8 9) 0 th c false false true (5 : Int) 0 0 at_ seen val value (2 : Int) stamp (0 : Int) 1 9 ybse ybsp rs ws asked rows old W (i64.wrap (steps + 1)) 1 ((2 : Int) + (at3 rs (↑i : Int)).pl) (at0 W ((2 : Int) + (at3 rs (↑i :
 Int)).pl)) (at0 W ((2 : Int) + (at3 rs (↑i : Int)).pl)) true) ∧ (((↑old.length : Int) == 0) = false → LfY (qNy st s) (dsF o 36 21 ++ dsF o 8 9) 0 th c false false true (5 : Int) 0 0 at_ seen val value (2 : Int) stamp (0 : Int) 1 9 ybse ybsp rs ws asked rows old W (i64.wrap
 (steps + 1)) 1 ((2 : Int) + (at3 rs (↑i : Int)).pl) (at0 W ((2 : Int) + (at3 rs (↑i : Int)).pl)) (at0 W ((2 : Int) + (at3 rs (↑i : Int)).pl)) true)) ∧ (decide (at0 W ((2 : Int) + (at3 rs (↑i : Int)).pl) / 16 > stamp) = false → (decide (i64.wrap ((↑i : Int) + 1) < (↑rs.length : Int)) = true → LfY (qNy st s) (dsF o 36 21 ++ dsF o 8 9) 0 th c true false true (4 : Int) 4 (i64.wrap ((↑i : Int) + 1)) at_ seen val value cause stamp made (1 : Int) 9 ybse ybsp rs ws asked rows old W
 (i64.wrap (steps + 1)) 1 ((2 : Int) + (at3 rs (↑i : Int)).pl) (at0 W ((2 : Int) + (at3 rs (↑i : Int)).pl)) (at0 W ((2 : Int) + (at3 rs (↑i : Int)).pl)) true) ∧ (decide (i64.wrap ((↑i : Int) + 1) <
 (↑rs.length : Int)) = false → (decide ((↑ws.length : Int) > 0) = true → LfY (qNy st s) (dsF o 36 21 ++ dsF o 8 9) 0 th c true true true (4 : Int) 6 0 at_ seen val value cause stamp made (1 : Int) 9 ybse ybsp rs ws asked rows old W (i64.wrap (steps + 1)) 1 ((2 : Int) + (at3 rs
 (↑i : Int)).pl) (at0 W ((2 : Int) + (at3 rs (↑i : Int)).pl)) (at0 W ((2 : Int) + (at3 rs (↑i : Int)).pl)) true) ∧ (decide ((↑ws.length : Int) > 0) = false → LfY (qNy st s) (dsF o 36 21 ++ dsF o 8 9) 0 th c true true true (4 : Int) 8 0 at_ seen val value cause stamp made (1 : Int) 9 ybse
 ybsp rs ws asked rows old W (i64.wrap (steps + 1)) 1 ((2 : Int) + (at3 rs (↑i : Int)).pl) (at0 W ((2 : Int) + (at3 rs (↑i : Int)).pl)) (at0 W ((2 : Int) + (at3 rs (↑i : Int)).pl)) true))))) ∧ (decide (at0
 W ((2 : Int) + (at3 rs (↑i : Int)).pl) % 16 - 1 ≥ 0) = false → versionD.pre (at0 W ((2 : Int) + (at3 rs (↑i : Int)).pl),()) ∧ (decide (at0 W ((2 : Int) + (at3 rs (↑i : Int)).pl) / 16 > stamp) =
 true → (((↑old.length : Int) == 0) = true → LfY (qNy st s) (dsF o 36 21 ++ dsF o 8 9) 0 th c
 false false true (5 : Int) 0 0 at_ seen val value (2 : Int) stamp (0 : Int) 1 9 ybse ybsp rs ws asked rows old W (i64.wrap (steps + 1)) 1 ((2 : Int) + (at3 rs (↑i :
 Int)).pl) (at0 W ((2 : Int) + (at3 rs (↑i : Int)).pl)) (at0 W ((2 : Int) + (at3 rs (↑i : Int)).pl)) true) ∧ (((↑old.length : Int) == 0) = false → LfY (qNy st s) (dsF o 36 21 ++ dsF o 8 9) 0 th c false false true (5 : Int) 0 0 at_ seen val value (2 : Int) stamp (0 : Int) 1 9 ybse
 ybsp rs ws asked rows old W (i64.wrap (steps + 1)) 1 ((2 : Int) + (at3 rs (↑i : Int)).pl) (at0 W ((2 : Int) + (at3 rs (↑i : Int)).pl)) (at0 W ((2 : Int) + (at3 rs (↑i : Int)).pl)) true)) ∧ (decide (at0 W
 ((2 : Int) + (at3 rs (↑i : Int)).pl) / 16 > stamp) = false → (decide (i64.wrap ((↑i : Int) + 1) < (↑rs.length : Int)) = true → LfY (qNy st s) (dsF o 36 21 ++ dsF o 8 9) 0 th c true false true (4 : Int) 4 (i64.wrap ((↑i : Int) + 1)) at_ seen val value cause stamp made (1 : Int) 9 ybse ybsp rs ws asked rows old W (i64.wrap (steps + 1)) 1 ((2 : Int) + (at3 rs (↑i : Int)).pl) (at0 W ((2 : Int) + (at3 rs (↑i : Int)).pl)) (at0 W ((2 : Int) + (at3 rs (↑i : Int)).pl)) true) ∧
 (decide (i64.wrap ((↑i : Int) + 1) < (↑rs.length : Int)) = false → (decide ((↑ws.length : Int) > 0) = true → LfY (qNy st s) (dsF o 36 21 ++ dsF o 8 9) 0 th c true true true (4 : Int) 6 0 at_ seen val value cause stamp made (1 : Int) 9 ybse ybsp rs ws asked rows old W
 (i64.wrap (steps + 1)) 1 ((2 : Int) + (at3 rs (↑i : Int)).pl) (at0 W ((2 : Int) + (at3 rs (↑i : Int)).pl)) (at0 W ((2 : Int) + (at3 rs (↑i : Int)).pl)) true) ∧ (decide ((↑ws.length : Int) > 0) = false →
 LfY (qNy st s) (dsF o 36 21 ++ dsF o 8 9) 0 th c true true true (4 : Int) 8 0 at_
 seen val value cause stamp made (1 : Int) 9 ybse ybsp rs ws asked rows old W (i64.wrap (steps + 1)) 1 ((2 : Int) + (at3 rs (↑i : Int)).pl) (at0 W ((2 : Int) + (at3 rs (↑i : Int)).pl)) (at0 W ((2 :
 Int) + (at3 rs (↑i : Int)).pl)) true))))))) := by kernel_rfl
theorem ys_c1_ok (I : XM → Prop) (hW : W.length = 34) (hst : ∀ r : Int,0 ≤ r → r < 3 → 0 ≤ at0 W (2 + r) ∧ at0 W (2 + r) < 1099511627776) (hw9 : ws.length ≤ 9) (hi : i < rs.length) (hrr : ∀ w ∈ rs,0 ≤ w.pl ∧ w.pl < 3) (hrs : rs.length ≤ 9) (hms : (made == i64.wrap (stamp + 1)) = false) : Paid (vcY (yStepD stepX I 39) (⟨code,th,c,1,4,8,i,at_,row,seen,val,value,cause,stamp,made,1,9,bse,bsp,true,rs,ws,asked,rows,tk,W,steps,lk,la,lv,ls,ld,1,9,ybse,ybsp⟩,⟨code,th,c,true,false,true,4,4,i,at_,seen,val,value,cause,stamp,made,1,9,ybse,ybsp,rs,ws,asked,rows,tk.map (·.vl),W,steps,lk,la,lv,ls,ld⟩) (hpF o 0 37)) := by
 have ha : 0 ≤ (at3 rs (i : Int)).pl ∧ (at3 rs (i : Int)).pl < 3 := by rw [at3_get hi]; exact hrr _ (List.getElem_mem _)
 have hb := hst _ ha.1 ha.2
 refine ⟨?_⟩
 rw [ys_c1]
 refine bd (show 0 ≤ (↑i : Int) by omega) (by omega) ?_ 2
 refine ⟨⟨rfl,(show 0 ≤ (at3 rs (↑i : Int)).pl by omega),(show (at3 rs (↑i : Int)).pl < 3 by omega)⟩,(in34 hW (show 0 ≤ 2 + (at3 rs (↑i : Int)).pl by omega) (show (2 : Int) + (at3 rs (↑i : Int)).pl < 34 by omega)),bd (show 0 ≤ 2 + (at3 rs (↑i : Int)).pl by omega) (by rw [hW]; omega) ?_ 6⟩
 refine ⟨hb, ?_, ?_⟩
 ·intro h1
  have h1g := qb h1
  have h2 : geB (at0 W ((2 : Int) + (at3 rs (↑i : Int)).pl) % 16 - 1) (0) = true := geB_t (by omega)
  have h3 : ltB (at0 W ((2 : Int) + (at3 rs (↑i : Int)).pl) % 16 - 1) (0) = false := ltB_f (by omega)
  refine ⟨?_, ?_⟩
  ·intro h4
   refine ⟨?_, ?_⟩
   ·intro h5
    rw [qh] at h5
    have h5g := eq_of_beq h5
    first | exact deadL | ((try clear h5g); exact lfyB rfl (ny2 8 rfl))
   ·intro h6
    rw [qh] at h6
    have h6g := ne_of_beq_false h6
    first | exact deadL | ((try clear h5g); exact lfyB rfl (ny2 8 rfl))
  ·intro h7
   refine ⟨hb, ?_, ?_⟩
   ·intro h8
    have h8g := qb h8
    have h9 : gtB (at0 W ((2 : Int) + (at3 rs (↑i : Int)).pl) / 16) (stamp) = true := gtB_t (by omega)
    refine ⟨?_, ?_⟩
    ·intro h10
     rw [qh] at h10
     have h10g := eq_of_beq h10
     first | exact deadL | ((try clear h5g); (try clear h10g); exact lfyB rfl (ny2 8 rfl))
    ·intro h11
     rw [qh] at h11
     have h11g := ne_of_beq_false h11
     first | exact deadL | ((try clear h5g); (try clear h10g); exact lfyB rfl (ny2 8 rfl))
   ·intro h12
    have h12g := qc h12
    have h13 : gtB (at0 W ((2 : Int) + (at3 rs (↑i : Int)).pl) / 16) (stamp) = false := gtB_f (by omega)
    refine ⟨?_, ?_⟩
    ·intro h14
     rw [wN (show i < 100000000 by omega)] at h14
     have h14g := qb h14
     have h15 : ltB (((i + 1 : Nat) : Int)) ((rs.length : Int)) = true := ltB_t (by omega)
     first | exact deadL | ((try clear h5g); (try clear h10g); exact lfyB (wN (by omega)) (ny2 8 rfl))
    ·intro h16
     rw [wN (show i < 100000000 by omega)] at h16
     have h16g := qc h16
     have h17 : ltB (((i + 1 : Nat) : Int)) ((rs.length : Int)) = false := ltB_f (by omega)
     refine ⟨?_, ?_⟩
     ·intro h18
      have h18g := qb h18
      have h19 : ltB (0) ((ws.length : Int)) = true := ltB_t (by omega)
      have h20 : gtB ((ws.length : Int)) (0) = true := gtB_t (by omega)
      first | exact deadL | ((try clear h5g); (try clear h10g); exact lfyB rfl (ny2 8 rfl))
     ·intro h21
      have h21g := qc h21
      have h22 : ltB (0) ((ws.length : Int)) = false := ltB_f (by omega)
      have h23 : gtB ((ws.length : Int)) (0) = false := gtB_f (by omega)
      first | exact deadL | ((try clear h5g); (try clear h10g); exact lfyB rfl (ny2 8 rfl))
 ·intro h24
  have h24g := qc h24
  have h25 : geB (at0 W ((2 : Int) + (at3 rs (↑i : Int)).pl) % 16 - 1) (0) = false := geB_f (by omega)
  have h26 : ltB (at0 W ((2 : Int) + (at3 rs (↑i : Int)).pl) % 16 - 1) (0) = true := ltB_t (by omega)
  refine ⟨hb, ?_, ?_⟩
  ·intro h27
   have h27g := qb h27
   have h28 : gtB (at0 W ((2 : Int) + (at3 rs (↑i : Int)).pl) / 16) (stamp) = true := gtB_t (by omega)
   refine ⟨?_, ?_⟩
   ·intro h29
    rw [qh] at h29
    have h29g := eq_of_beq h29
    first | exact deadL | ((try clear h5g); (try clear h10g); (try clear h29g); exact lfyB rfl (ny2 8 rfl))
   ·intro h30
    rw [qh] at h30
    have h30g := ne_of_beq_false h30
    first | exact deadL | ((try clear h5g); (try clear h10g); (try clear h29g); exact lfyB rfl (ny2 8 rfl))
  ·intro h31
   have h31g := qc h31
   have h32 : gtB (at0 W ((2 : Int) + (at3 rs (↑i : Int)).pl) / 16) (stamp) = false := gtB_f (by omega)
   refine ⟨?_, ?_⟩
   ·intro h33
    rw [wN (show i < 100000000 by omega)] at h33
    have h33g := qb h33
    have h34 : ltB (((i + 1 : Nat) : Int)) ((rs.length : Int)) = true := ltB_t (by omega)
    first | exact deadL | ((try clear h5g); (try clear h10g); (try clear h29g); exact lfyB (wN (by omega)) (ny2 8 rfl))
   ·intro h35
    rw [wN (show i < 100000000 by omega)] at h35
    have h35g := qc h35
    have h36 : ltB (((i + 1 : Nat) : Int)) ((rs.length : Int)) = false := ltB_f (by omega)
    refine ⟨?_, ?_⟩
    ·intro h37
     have h37g := qb h37
     have h38 : ltB (0) ((ws.length : Int)) = true := ltB_t (by omega)
     have h39 : gtB ((ws.length : Int)) (0) = true := gtB_t (by omega)
     first | exact deadL | ((try clear h5g); (try clear h10g); (try clear h29g); exact lfyB rfl (ny2 8 rfl))
    ·intro h40
     have h40g := qc h40
     have h41 : ltB (0) ((ws.length : Int)) = false := ltB_f (by omega)
     have h42 : gtB ((ws.length : Int)) (0) = false := gtB_f (by omega)
     first | exact deadL | ((try clear h5g); (try clear h10g); (try clear h29g); exact lfyB rfl (ny2 8 rfl))
theorem ys_c2 (st : XM → XM) (I : XM → Prop) (s : XM) : Go.Sy.Tree.holds (vcY (yStepD st I 39) (s,⟨code,th,c,true,false,true,4,4,i,at_,seen,val,value,cause,stamp,made,2,9,ybse,ybsp,rs,ws,asked,
 rows,old,W,steps,lk,la,lv,ls,ld⟩) (hpF o 0 37)) =
 ( Bd 2 ((↑i : Int)) (↑rs.length : Int) (stripeD.pre (mp1,(at3 rs (↑i : Int)).pl,()) ∧ inD.pre (Mw.mk W,2 + (at3 rs (↑i : Int)).pl,()) ∧ Bd 6 ((2 : Int) + (at3 rs (↑i : Int)).pl) (↑W.length : Int) (holderD.pre
 (at0 W ((2 : Int) + (at3 rs (↑i : Int)).pl),()) ∧ (decide (at0 W ((2 : Int) + (at3 rs (↑i : Int)).pl) % 16 - 1 ≥ 0) = true → ((at0 W ((2 : Int) + (at3 rs (↑i : Int)).pl) % 16 - 1 != th) = true →
 (((↑old.length : Int) == 0) = true → LfY (qNy st s) (dsF o 36 21 ++ dsF o 8 9) 0 th c false false
 true (5 : Int) 0 0 at_ seen val value (1 : Int) stamp (0 : Int) 2 9 ybse ybsp rs ws asked rows old W (i64.wrap (steps + 1)) 1 ((2 : Int) + (at3 rs (↑i : Int)).pl) (at0 W
 ((2 : Int) + (at3 rs (↑i : Int)).pl)) (at0 W ((2 : Int) + (at3 rs (↑i : Int)).pl)) true) ∧ (((↑old.length : Int) == 0) = false → LfY (qNy st s) (dsF o 36 21 ++ dsF o 8 9) 0 th c false false true (5 : Int) 0 0 at_ seen val value (1 : Int) stamp (0 : Int) 2 9 ybse ybsp rs ws asked rows
 old W (i64.wrap (steps + 1)) 1 ((2 : Int) + (at3 rs (↑i : Int)).pl) (at0 W ((2 : Int) + (at3 rs (↑i : Int)).pl)) (at0 W ((2 : Int) + (at3 rs (↑i : Int)).pl)) true)) ∧ ((at0 W ((2 : Int) + (at3 rs (↑i :
 Int)).pl) % 16 - 1 != th) = false → versionD.pre (at0 W ((2 : Int) + (at3 rs (↑i : Int)).pl),()) ∧ (decide (at0 W ((2 : Int) + (at3 rs (↑i : Int)).pl) / 16 > stamp) = true → (((↑old.length : Int) == 0) =
 true → LfY (qNy st s) (dsF o 36 21 ++ dsF o 8 9) 0 th c false false true (5 : Int) 0 0 at_ seen val value (2 : Int) stamp (0 : Int) 2 9 ybse ybsp rs ws asked rows old W (i64.wrap (steps + 1)) 1 ((2 : Int) + (at3 rs (↑i : Int)).pl) (at0 W ((2 : Int) + (at3 rs (↑i :
 Int)).pl)) (at0 W ((2 : Int) + (at3 rs (↑i : Int)).pl)) true) ∧ (((↑old.length : Int) == 0) = false → LfY (qNy st s) (dsF o 36 21 ++ dsF o 8 9) 0 th c false false true (5 : Int) 0 0 at_ seen val value (2 : Int) stamp (0 : Int) 2 9 ybse ybsp rs ws asked rows old W (i64.wrap
 (steps + 1)) 1 ((2 : Int) + (at3 rs (↑i : Int)).pl) (at0 W ((2 : Int) + (at3 rs (↑i : Int)).pl)) (at0 W ((2 : Int) + (at3 rs (↑i : Int)).pl)) true)) ∧ (decide (at0 W ((2 : Int) + (at3 rs (↑i : Int)).pl) / 16 > stamp) = false → (decide (i64.wrap ((↑i : Int) + 1) < (↑rs.length : Int)) = true → LfY (qNy st s) (dsF o 36 21 ++ dsF o 8 9) 0 th c true false true (4 : Int) 4 (i64.wrap ((↑i : Int) + 1)) at_ seen val value cause stamp made (2 : Int) 9 ybse ybsp rs ws asked rows old W
 (i64.wrap (steps + 1)) 1 ((2 : Int) + (at3 rs (↑i : Int)).pl) (at0 W ((2 : Int) + (at3 rs (↑i : Int)).pl)) (at0 W ((2 : Int) + (at3 rs (↑i : Int)).pl)) true) ∧ (decide (i64.wrap ((↑i : Int) + 1) <
 (↑rs.length : Int)) = false → (decide ((↑ws.length : Int) > 0) = true → LfY (qNy st s) (dsF o 36 21 ++ dsF o 8 9) 0 th c true true true (4 : Int) 6 0 at_ seen val value cause stamp made (2 : Int) 9 ybse ybsp rs ws asked rows old W (i64.wrap (steps + 1)) 1 ((2 : Int) + (at3 rs
 (↑i : Int)).pl) (at0 W ((2 : Int) + (at3 rs (↑i : Int)).pl)) (at0 W ((2 : Int) + (at3 rs (↑i : Int)).pl)) true) ∧ (decide ((↑ws.length : Int) > 0) = false → LfY (qNy st s) (dsF o 36 21 ++ dsF o 8 9) 0 th c true true true (4 : Int) 8 0 at_ seen val value cause stamp made (2 : Int) 9 ybse
 ybsp rs ws asked rows old W (i64.wrap (steps + 1)) 1 ((2 : Int) + (at3 rs (↑i : Int)).pl) (at0 W ((2 : Int) + (at3 rs (↑i : Int)).pl)) (at0 W ((2 : Int) + (at3 rs (↑i : Int)).pl)) true))))) ∧ (decide (at0
 W ((2 : Int) + (at3 rs (↑i : Int)).pl) % 16 - 1 ≥ 0) = false → versionD.pre (at0 W ((2 : Int) + (at3 rs (↑i : Int)).pl),()) ∧ (decide (at0 W ((2 : Int) + (at3 rs (↑i : Int)).pl) / 16 > stamp) =
 true → (((↑old.length : Int) == 0) = true → LfY (qNy st s) (dsF o 36 21 ++ dsF o 8 9) 0 th c
 false false true (5 : Int) 0 0 at_ seen val value (2 : Int) stamp (0 : Int) 2 9 ybse ybsp rs ws asked rows old W (i64.wrap (steps + 1)) 1 ((2 : Int) + (at3 rs (↑i :
 Int)).pl) (at0 W ((2 : Int) + (at3 rs (↑i : Int)).pl)) (at0 W ((2 : Int) + (at3 rs (↑i : Int)).pl)) true) ∧ (((↑old.length : Int) == 0) = false → LfY (qNy st s) (dsF o 36 21 ++ dsF o 8 9) 0 th c false false true (5 : Int) 0 0 at_ seen val value (2 : Int) stamp (0 : Int) 2 9 ybse
 ybsp rs ws asked rows old W (i64.wrap (steps + 1)) 1 ((2 : Int) + (at3 rs (↑i : Int)).pl) (at0 W ((2 : Int) + (at3 rs (↑i : Int)).pl)) (at0 W ((2 : Int) + (at3 rs (↑i : Int)).pl)) true)) ∧ (decide (at0 W
 ((2 : Int) + (at3 rs (↑i : Int)).pl) / 16 > stamp) = false → (decide (i64.wrap ((↑i : Int) + 1) < (↑rs.length : Int)) = true → LfY (qNy st s) (dsF o 36 21 ++ dsF o 8 9) 0 th c true false true (4 : Int) 4 (i64.wrap ((↑i : Int) + 1)) at_ seen val value cause stamp made (2 : Int) 9 ybse ybsp rs ws asked rows old W (i64.wrap (steps + 1)) 1 ((2 : Int) + (at3 rs (↑i : Int)).pl) (at0 W ((2 : Int) + (at3 rs (↑i : Int)).pl)) (at0 W ((2 : Int) + (at3 rs (↑i : Int)).pl)) true) ∧
 (decide (i64.wrap ((↑i : Int) + 1) < (↑rs.length : Int)) = false → (decide ((↑ws.length : Int) > 0) = true → LfY (qNy st s) (dsF o 36 21 ++ dsF o 8 9) 0 th c true true true (4 : Int) 6 0 at_ seen val value cause stamp made (2 : Int) 9 ybse ybsp rs ws asked rows old W
 (i64.wrap (steps + 1)) 1 ((2 : Int) + (at3 rs (↑i : Int)).pl) (at0 W ((2 : Int) + (at3 rs (↑i : Int)).pl)) (at0 W ((2 : Int) + (at3 rs (↑i : Int)).pl)) true) ∧ (decide ((↑ws.length : Int) > 0) = false →
 LfY (qNy st s) (dsF o 36 21 ++ dsF o 8 9) 0 th c true true true (4 : Int) 8 0 at_
 seen val value cause stamp made (2 : Int) 9 ybse ybsp rs ws asked rows old W (i64.wrap (steps + 1)) 1 ((2 : Int) + (at3 rs (↑i : Int)).pl) (at0 W ((2 : Int) + (at3 rs (↑i : Int)).pl)) (at0 W ((2 :
 Int) + (at3 rs (↑i : Int)).pl)) true))))))) := by kernel_rfl
theorem ys_c2_ok (I : XM → Prop) (hW : W.length = 34) (hst : ∀ r : Int,0 ≤ r → r < 3 → 0 ≤ at0 W (2 + r) ∧ at0 W (2 + r) < 1099511627776) (hw9 : ws.length ≤ 9) (hi : i < rs.length) (hrr : ∀ w ∈ rs,0 ≤ w.pl ∧ w.pl < 3) (hrs : rs.length ≤ 9) : Paid (vcY (yStepD stepX I 39) (⟨code,th,c,1,4,8,i,at_,row,seen,val,value,cause,stamp,made,2,9,bse,bsp,true,rs,ws,asked,rows,tk,W,steps,lk,la,lv,ls,ld,2,9,ybse,ybsp⟩,⟨code,th,c,true,false,true,4,4,i,at_,seen,val,value,cause,stamp,made,2,9,ybse,ybsp,rs,ws,asked,rows,tk.map (·.vl),W,steps,lk,la,lv,ls,ld⟩) (hpF o 0 37)) := by
 have ha : 0 ≤ (at3 rs (i : Int)).pl ∧ (at3 rs (i : Int)).pl < 3 := by rw [at3_get hi]; exact hrr _ (List.getElem_mem _)
 have hb := hst _ ha.1 ha.2
 refine ⟨?_⟩
 rw [ys_c2]
 refine bd (show 0 ≤ (↑i : Int) by omega) (by omega) ?_ 2
 refine ⟨⟨rfl,(show 0 ≤ (at3 rs (↑i : Int)).pl by omega),(show (at3 rs (↑i : Int)).pl < 3 by omega)⟩,(in34 hW (show 0 ≤ 2 + (at3 rs (↑i : Int)).pl by omega) (show (2 : Int) + (at3 rs (↑i : Int)).pl < 34 by omega)),bd (show 0 ≤ 2 + (at3 rs (↑i : Int)).pl by omega) (by rw [hW]; omega) ?_ 6⟩
 refine ⟨hb, ?_, ?_⟩
 ·intro h1
  have h1g := qb h1
  have h2 : geB (at0 W ((2 : Int) + (at3 rs (↑i : Int)).pl) % 16 - 1) (0) = true := geB_t (by omega)
  have h3 : ltB (at0 W ((2 : Int) + (at3 rs (↑i : Int)).pl) % 16 - 1) (0) = false := ltB_f (by omega)
  refine ⟨?_, ?_⟩
  ·intro h4
   refine ⟨?_, ?_⟩
   ·intro h5
    rw [qh] at h5
    have h5g := eq_of_beq h5
    first | exact deadL | ((try clear h5g); exact lfyB rfl (ny2 8 rfl))
   ·intro h6
    rw [qh] at h6
    have h6g := ne_of_beq_false h6
    first | exact deadL | ((try clear h5g); exact lfyB rfl (ny2 8 rfl))
  ·intro h7
   refine ⟨hb, ?_, ?_⟩
   ·intro h8
    have h8g := qb h8
    have h9 : gtB (at0 W ((2 : Int) + (at3 rs (↑i : Int)).pl) / 16) (stamp) = true := gtB_t (by omega)
    refine ⟨?_, ?_⟩
    ·intro h10
     rw [qh] at h10
     have h10g := eq_of_beq h10
     first | exact deadL | ((try clear h5g); (try clear h10g); exact lfyB rfl (ny2 8 rfl))
    ·intro h11
     rw [qh] at h11
     have h11g := ne_of_beq_false h11
     first | exact deadL | ((try clear h5g); (try clear h10g); exact lfyB rfl (ny2 8 rfl))
   ·intro h12
    have h12g := qc h12
    have h13 : gtB (at0 W ((2 : Int) + (at3 rs (↑i : Int)).pl) / 16) (stamp) = false := gtB_f (by omega)
    refine ⟨?_, ?_⟩
    ·intro h14
     rw [wN (show i < 100000000 by omega)] at h14
     have h14g := qb h14
     have h15 : ltB (((i + 1 : Nat) : Int)) ((rs.length : Int)) = true := ltB_t (by omega)
     first | exact deadL | ((try clear h5g); (try clear h10g); exact lfyB (wN (by omega)) (ny2 8 rfl))
    ·intro h16
     rw [wN (show i < 100000000 by omega)] at h16
     have h16g := qc h16
     have h17 : ltB (((i + 1 : Nat) : Int)) ((rs.length : Int)) = false := ltB_f (by omega)
     refine ⟨?_, ?_⟩
     ·intro h18
      have h18g := qb h18
      have h19 : ltB (0) ((ws.length : Int)) = true := ltB_t (by omega)
      have h20 : gtB ((ws.length : Int)) (0) = true := gtB_t (by omega)
      first | exact deadL | ((try clear h5g); (try clear h10g); exact lfyB rfl (ny2 8 rfl))
     ·intro h21
      have h21g := qc h21
      have h22 : ltB (0) ((ws.length : Int)) = false := ltB_f (by omega)
      have h23 : gtB ((ws.length : Int)) (0) = false := gtB_f (by omega)
      first | exact deadL | ((try clear h5g); (try clear h10g); exact lfyB rfl (ny2 8 rfl))
 ·intro h24
  have h24g := qc h24
  have h25 : geB (at0 W ((2 : Int) + (at3 rs (↑i : Int)).pl) % 16 - 1) (0) = false := geB_f (by omega)
  have h26 : ltB (at0 W ((2 : Int) + (at3 rs (↑i : Int)).pl) % 16 - 1) (0) = true := ltB_t (by omega)
  refine ⟨hb, ?_, ?_⟩
  ·intro h27
   have h27g := qb h27
   have h28 : gtB (at0 W ((2 : Int) + (at3 rs (↑i : Int)).pl) / 16) (stamp) = true := gtB_t (by omega)
   refine ⟨?_, ?_⟩
   ·intro h29
    rw [qh] at h29
    have h29g := eq_of_beq h29
    first | exact deadL | ((try clear h5g); (try clear h10g); (try clear h29g); exact lfyB rfl (ny2 8 rfl))
   ·intro h30
    rw [qh] at h30
    have h30g := ne_of_beq_false h30
    first | exact deadL | ((try clear h5g); (try clear h10g); (try clear h29g); exact lfyB rfl (ny2 8 rfl))
  ·intro h31
   have h31g := qc h31
   have h32 : gtB (at0 W ((2 : Int) + (at3 rs (↑i : Int)).pl) / 16) (stamp) = false := gtB_f (by omega)
   refine ⟨?_, ?_⟩
   ·intro h33
    rw [wN (show i < 100000000 by omega)] at h33
    have h33g := qb h33
    have h34 : ltB (((i + 1 : Nat) : Int)) ((rs.length : Int)) = true := ltB_t (by omega)
    first | exact deadL | ((try clear h5g); (try clear h10g); (try clear h29g); exact lfyB (wN (by omega)) (ny2 8 rfl))
   ·intro h35
    rw [wN (show i < 100000000 by omega)] at h35
    have h35g := qc h35
    have h36 : ltB (((i + 1 : Nat) : Int)) ((rs.length : Int)) = false := ltB_f (by omega)
    refine ⟨?_, ?_⟩
    ·intro h37
     have h37g := qb h37
     have h38 : ltB (0) ((ws.length : Int)) = true := ltB_t (by omega)
     have h39 : gtB ((ws.length : Int)) (0) = true := gtB_t (by omega)
     first | exact deadL | ((try clear h5g); (try clear h10g); (try clear h29g); exact lfyB rfl (ny2 8 rfl))
    ·intro h40
     have h40g := qc h40
     have h41 : ltB (0) ((ws.length : Int)) = false := ltB_f (by omega)
     have h42 : gtB ((ws.length : Int)) (0) = false := gtB_f (by omega)
     first | exact deadL | ((try clear h5g); (try clear h10g); (try clear h29g); exact lfyB rfl (ny2 8 rfl))
end Go.Proofs.YtmjjljngaefpaaaGreat

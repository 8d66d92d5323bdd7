/- Tl2Two: a step of the program's attempt, from each of its states. -/
import Derived.Test.YtmjjljngaefpaaaXs
namespace Go.Proofs.Ytmjjljngaefpaaa
open Go.RowKit Go.Am Go.Sy
open Go.IntKind (i64 u64)
set_option linter.unusedVariables false
set_option linter.unusedSimpArgs false
variable (code th c part : Int) (i : Nat) (at_ row seen val value cause stamp made bk bst bse bsp : Int) (ph ld : Bool) (rs ws tk : List Wo) (rows W : List Int) (asked steps lk la lv ls ybk ybst ybse ybsp : Int)
variable (o : Nat → Option Ob)
theorem xs_w (st : XM → XM) (I : XM → Prop) : Go.Sy.Tree.holds (vcX (xStepD st I 62) ⟨code,th,c,2,4,9,i,at_,row,seen,val,value,cause,stamp,made,bk,bst,bse,bsp,true,rs,ws,asked,rows,tk,W,steps,
 lk,la,lv,ls,ld,ybk,ybst,ybse,ybsp⟩ (hpF o 0 60)) = ( (fun (u0 : XM) => sizeD.pre (mp1,()) ∧ (decide ((↑W.length : Int) < 34) = true → Lf (qN st u0) (dsF o 59 51) 1 th c (2 : Int) 4 9 (↑i
 : Int) at_ row seen val value cause stamp made bk bst bse bsp true rs ws asked rows tk W steps lk la lv ls ld) ∧ (decide ((↑W.length : Int) < 34) = false → ws.length * 16 ≤ 140737488355328 ∧ ((0 : Int) ≤ (↑i : Int) ∧ (↑i
 : Int) < (↑ws.length : Int)) ∧ ((0 : Int) ≤ (↑i : Int) ∧ (↑i : Int) < (↑ws.length : Int)) ∧ badD.pre (Mw.mk W,(at3 ws (↑i : Int)).pl,()) ∧ ((0 : Int) ≤ (at3 ws (↑i : Int)).pl ∧ (at3 ws (↑i : Int)).pl < (↑W.length :
 Int)) ∧ ((0 : Int) ≤ (at3 ws (↑i : Int)).pl ∧ (at3 ws (↑i : Int)).pl < (↑W.length : Int)) ∧ ((0 : Int) ≤ (at3 ws (↑i : Int)).pl ∧ (at3 ws (↑i : Int)).pl < (↑W.length : Int)) ∧ ((0 : Int) ≤ (at3 ws (↑i : Int)).pl ∧ (at3
 ws (↑i : Int)).pl < (↑W.length : Int)) ∧ (decide (i64.wrap ((↑i : Int) + 1) < (↑ws.length : Int)) = true → Lf (qN st u0) (dsF o 59 51) 0 th c (2 : Int) 4 9 (i64.wrap ((↑i : Int) +
 1)) at_ row seen val value cause stamp made bk bst bse bsp true rs ws asked rows tk (W.set (at3 ws (↑i : Int)).pl.toNat (at3 ws (↑i : Int)).vl) (i64.wrap (steps + 1)) 2 ((at3 ws (↑i : Int)).pl) ((at3 ws
 (↑i : Int)).vl) (at0 W (at3 ws (↑i : Int)).pl) true) ∧ (decide (i64.wrap ((↑i : Int) + 1) < (↑ws.length : Int)) = false → (decide ((0 : Int) ≥ (↑rows.length : Int)) = true → Lf (qN st u0) (dsF o 59 51) 0
 th c (2 : Int) 4 11 0 at_ row seen val value cause stamp made bk bst bse bsp true rs ws asked rows tk (W.set (at3 ws (↑i : Int)).pl.toNat (at3 ws (↑i : Int)).vl) (i64.wrap (steps + 1)) 2 ((at3 ws (↑i : Int)).pl) ((at3 ws (↑i : Int)).vl) (at0 W (at3 ws (↑i : Int)).pl) true) ∧ (decide ((0 : Int) ≥ (↑rows.length : Int)) = false → Lf (qN st u0) (dsF o 59 51) 0 th c (2 : Int) 4 10 0 at_ row seen val value cause stamp made bk bst bse bsp true rs ws asked rows tk (W.set (at3 ws (↑i : Int)).pl.toNat (at3 ws (↑i : Int)).vl) (i64.wrap (steps + 1)) 2 ((at3 ws (↑i : Int)).pl)
 ((at3 ws (↑i : Int)).vl) (at0 W (at3 ws (↑i : Int)).pl) true)))) (XM.mk code th c (2 : Int) 4 9 i at_ row seen val value cause stamp made bk bst bse bsp true rs ws asked rows tk W steps lk la lv ls ld ybk
 ybst ybse ybsp)) := by kernel_rfl
theorem xs_w_ok (I : XM → Prop) (hW : W.length = 34) (hi : i < ws.length) (hws : ws.length ≤ 9) (hwd : ∀ w ∈ ws,isData w.pl) (hro : 0 < rows.length) : Paid (vcX (xStepD stepX I 62) ⟨code,th,c,2,4,9,i,at_,row,seen,val,value,cause,stamp,made,bk,bst,bse,bsp,true,rs,ws,asked,rows,tk,W,steps,lk,la,lv,ls,ld,ybk,ybst,ybse,ybsp⟩ (hpF o 0 60)) := by
 have ha : 0 ≤ (at3 ws (i : Int)).pl ∧ (at3 ws (i : Int)).pl < 34 := by rw [at3_get hi]; exact data_lt (hwd _ (List.getElem_mem _))
 refine ⟨?_⟩
 rw [xs_w]
 dsimp only
 refine ⟨rfl, ?_, ?_⟩
 ·intro h1
  exact absurd (of_decide_eq_true h1) (by rw [hW]; decide)
 ·intro h2
  refine ⟨(by omega), ?_, ?_,(bad34 hW (show 0 ≤ (at3 ws (↑i : Int)).pl by omega) (show (at3 ws (↑i : Int)).pl < 34 by omega)), ?_, ?_, ?_, ?_, ?_, ?_⟩
  ·exact ⟨(by omega),(by omega)⟩
  ·exact ⟨(by omega),(by omega)⟩
  ·exact ⟨(by omega),(by rw [hW]; omega)⟩
  ·exact ⟨(by omega),(by rw [hW]; omega)⟩
  ·exact ⟨(by omega),(by rw [hW]; omega)⟩
  ·exact ⟨(by omega),(by rw [hW]; omega)⟩
  ·intro h3
   rw [wN (show i < 100000000 by omega)] at h3
   have h3g := of_decide_eq_true h3
   replace h3 : ltB (((i + 1 : Nat) : Int)) ((ws.length : Int)) = true := h3
   first | exact deadL | exact lfB (wN (by omega)) (nf2 9 rfl) | exact deadS
  ·intro h4
   rw [wN (show i < 100000000 by omega)] at h4
   have h4g := of_decide_eq_false h4
   replace h4 : ltB (((i + 1 : Nat) : Int)) ((ws.length : Int)) = false := h4
   refine ⟨?_, ?_⟩
   ·intro h5
    have h5g := of_decide_eq_true h5
    replace h5 : geB ((0 : Int)) ((rows.length : Int)) = true := h5
    first | exact deadL | exact lfB rfl (nf2 9 rfl) | exact deadS
   ·intro h6
    have h6g := of_decide_eq_false h6
    replace h6 : geB ((0 : Int)) ((rows.length : Int)) = false := h6
    first | exact deadL | exact lfB rfl (nf2 9 rfl) | exact deadS
theorem xs_f (st : XM → XM) (I : XM → Prop) : Go.Sy.Tree.holds (vcX (xStepD st I 62) ⟨code,th,c,2,4,10,i,at_,row,seen,val,value,cause,stamp,made,bk,bst,bse,bsp,true,rs,ws,asked,rows,tk,W,steps,
 lk,la,lv,ls,ld,ybk,ybst,ybse,ybsp⟩ (hpF o 0 60)) = ( (fun (u0 : XM) => sizeD.pre (mp1,()) ∧ (decide ((↑W.length : Int) < 34) = true → Lf (qN st u0) (dsF o 59 51) 1 th c (2 : Int) 4 10 (↑i
 : Int) at_ row seen val value cause stamp made bk bst bse bsp true rs ws asked rows tk W steps lk la lv ls ld) ∧ (decide ((↑W.length : Int) < 34) = false → ((0 : Int) ≤ (↑i : Int) ∧ (↑i : Int) < (↑rows.length : Int)) ∧
 ((0 : Int) ≤ (↑i : Int) ∧ (↑i : Int) < (↑rows.length : Int)) ∧ stripeD.pre (mp1,at0 rows (↑i : Int),()) ∧ freeD.pre (made,()) ∧ badD.pre (Mw.mk W,2 + at0 rows (↑i : Int),()) ∧ ((0 : Int) ≤ 2 + at0 rows (↑i :
 Int) ∧ 2 + at0 rows (↑i : Int) < (↑W.length : Int)) ∧ ((0 : Int) ≤ 2 + at0 rows (↑i : Int) ∧ 2 + at0 rows (↑i : Int) < (↑W.length : Int)) ∧ ((0 : Int) ≤ 2 + at0 rows (↑i : Int) ∧ 2 + at0 rows (↑i
 : Int) < (↑W.length : Int)) ∧ ((0 : Int) ≤ 2 + at0 rows (↑i : Int) ∧ 2 + at0 rows (↑i : Int) < (↑W.length : Int)) ∧ (decide (i64.wrap ((↑i : Int) + 1) ≥ (↑rows.length : Int)) = true → Lf (qN st u0) (dsF o
 59 51) 0 th c (2 : Int) 4 11 (i64.wrap ((↑i : Int) + 1)) at_ row seen val value cause stamp made bk bst bse bsp true rs ws asked rows tk (W.set ((2 : Int) + at0 rows (↑i : Int)).toNat
 (made * 16)) (i64.wrap (steps + 1)) 2 ((2 : Int) + at0 rows (↑i : Int)) (made * 16) (at0 W ((2 : Int) + at0 rows (↑i : Int))) true) ∧ (decide (i64.wrap ((↑i : Int) + 1) ≥ (↑rows.length : Int)) =
 false → Lf (qN st u0) (dsF o 59 51) 0 th c (2 : Int) 4 10 (i64.wrap ((↑i : Int) + 1)) at_ row seen val value cause stamp made bk bst bse bsp true rs ws asked rows tk (W.set ((2 : Int) +
 at0 rows (↑i : Int)).toNat (made * 16)) (i64.wrap (steps + 1)) 2 ((2 : Int) + at0 rows (↑i : Int)) (made * 16) (at0 W ((2 : Int) + at0 rows (↑i : Int))) true))) (XM.mk code th c (2 : Int) 4 10 i at_ row seen val value cause stamp made bk bst bse bsp true rs ws asked rows tk W steps lk la lv ls ld ybk ybst ybse ybsp)) := by kernel_rfl
theorem xs_f_ok (I : XM → Prop) (hW : W.length = 34) (hi : i < rows.length) (hrr : ∀ r ∈ rows,0 ≤ r ∧ r < 3) (hro : rows.length ≤ 3) (hma : 0 ≤ made ∧ made < 68719476736) : Paid (vcX (xStepD stepX I 62) ⟨code,th,c,2,4,10,i,at_,row,seen,val,value,cause,stamp,made,bk,bst,bse,bsp,true,rs,ws,asked,rows,tk,W,steps,lk,la,lv,ls,ld,ybk,ybst,ybse,ybsp⟩ (hpF o 0 60)) := by
 have ha : 0 ≤ at0 rows (i : Int) ∧ at0 rows (i : Int) < 3 := by rw [at0_get hi]; exact hrr _ (List.getElem_mem _)
 refine ⟨?_⟩
 rw [xs_f]
 dsimp only
 refine ⟨rfl, ?_, ?_⟩
 ·intro h1
  exact absurd (of_decide_eq_true h1) (by rw [hW]; decide)
 ·intro h2
  refine ⟨?_, ?_,⟨rfl,(show 0 ≤ at0 rows (↑i : Int) by omega),(show at0 rows (↑i : Int) < 3 by omega)⟩,hma,(bad34 hW (show 0 ≤ 2 + at0 rows (↑i : Int) by omega) (show (2 : Int) + at0 rows (↑i : Int) < 34 by omega)), ?_, ?_, ?_, ?_, ?_, ?_⟩
  ·exact ⟨(by omega),(by omega)⟩
  ·exact ⟨(by omega),(by omega)⟩
  ·exact ⟨(by omega),(by rw [hW]; omega)⟩
  ·exact ⟨(by omega),(by rw [hW]; omega)⟩
  ·exact ⟨(by omega),(by rw [hW]; omega)⟩
  ·exact ⟨(by omega),(by rw [hW]; omega)⟩
  ·intro h3
   rw [wN (show i < 100000000 by omega)] at h3
   have h3g := of_decide_eq_true h3
   replace h3 : geB (((i + 1 : Nat) : Int)) ((rows.length : Int)) = true := h3
   first | exact deadL | exact lfB (wN (by omega)) (nf2 10 rfl) | exact deadS
  ·intro h4
   rw [wN (show i < 100000000 by omega)] at h4
   have h4g := of_decide_eq_false h4
   replace h4 : geB (((i + 1 : Nat) : Int)) ((rows.length : Int)) = false := h4
   first | exact deadL | exact lfB (wN (by omega)) (nf2 10 rfl) | exact deadS
theorem xs_e (st : XM → XM) (I : XM → Prop) : Go.Sy.Tree.holds (vcX (xStepD st I 62) ⟨code,th,c,2,4,11,i,at_,row,seen,val,value,cause,stamp,made,bk,bst,bse,bsp,true,rs,ws,asked,rows,tk,W,steps,
 lk,la,lv,ls,ld,ybk,ybst,ybse,ybsp⟩ (hpF o 0 60)) = ( (fun (u0 : XM) => sizeD.pre (mp1,()) ∧ (decide ((↑W.length : Int) < 34) = true → Lf (qN st u0) (dsF o 59 51) 1 th c (2 : Int) 4 11 (↑i
 : Int) at_ row seen val value cause stamp made bk bst bse bsp true rs ws asked rows tk W steps lk la lv ls ld) ∧ (decide ((↑W.length : Int) < 34) = false → threadD.pre (mp1,th,(0 : Int),()) ∧ badD.pre (Mw.mk W,11 + 2 * th,()) ∧ ((0 : Int) ≤ 11 + 2 * th ∧ 11 + 2 * th < (↑W.length : Int)) ∧ ((0 : Int) ≤ 11 + 2 * th ∧ 11 + 2 * th < (↑W.length : Int)) ∧ ((0 : Int) ≤ 11 + 2 * th ∧ 11 + 2 * th < (↑W.length
 : Int)) ∧ ((0 : Int) ≤ 11 + 2 * th ∧ 11 + 2 * th < (↑W.length : Int)) ∧ (decide ((↑ws.length : Int) > 0) = true → Lf (qN st u0) (dsF o 59 51) 1 th c (2 : Int) 0 11 (↑i : Int) at_ row seen
 val value cause made made bk bst bse bsp false rs ws asked rows tk (W.set ((11 : Int) + 2 * th).toNat (0 : Int)) (i64.wrap (steps + 1)) 2 ((11 : Int) + 2 * th) 0 (at0 W ((11 : Int) + 2 * th))
 true) ∧ (decide ((↑ws.length : Int) > 0) = false → Lf (qN st u0) (dsF o 59 51) 1 th c (2 : Int) 0 11 (↑i : Int) at_ row seen val value cause stamp made bk bst bse bsp false rs ws asked rows tk
 (W.set ((11 : Int) + 2 * th).toNat (0 : Int)) (i64.wrap (steps + 1)) 2 ((11 : Int) + 2 * th) 0 (at0 W ((11 : Int) + 2 * th)) true))) (XM.mk code th c (2 : Int) 4 11 i at_ row seen
 val value cause stamp made bk bst bse bsp true rs ws asked rows tk W steps lk la lv ls ld ybk ybst ybse ybsp)) := by kernel_rfl
theorem xs_e_ok (I : XM → Prop) (hW : W.length = 34) (hth : 0 ≤ th ∧ th < 3) : Paid (vcX (xStepD stepX I 62) ⟨code,th,c,2,4,11,i,at_,row,seen,val,value,cause,stamp,made,bk,bst,bse,bsp,true,rs,ws,asked,rows,tk,W,steps,lk,la,lv,ls,ld,ybk,ybst,ybse,ybsp⟩ (hpF o 0 60)) := by
 refine ⟨?_⟩
 rw [xs_e]
 dsimp only
 refine ⟨rfl, ?_, ?_⟩
 ·intro h1
  exact absurd (of_decide_eq_true h1) (by rw [hW]; decide)
 ·intro h2
  refine ⟨⟨rfl,(show 0 ≤ th by omega),(show th < 3 by omega),rfl⟩,(bad34 hW (show 0 ≤ 11 + 2 * th by omega) (show (11 : Int) + 2 * th < 34 by omega)), ?_, ?_, ?_, ?_, ?_, ?_⟩
  ·exact ⟨(by omega),(by rw [hW]; omega)⟩
  ·exact ⟨(by omega),(by rw [hW]; omega)⟩
  ·exact ⟨(by omega),(by rw [hW]; omega)⟩
  ·exact ⟨(by omega),(by rw [hW]; omega)⟩
  ·intro h3
   have h3g := of_decide_eq_true h3
   replace h3 : gtB ((ws.length : Int)) ((0 : Int)) = true := h3
   first | exact deadL | exact lfB rfl (nf2 11 rfl) | exact deadS
  ·intro h4
   have h4g := of_decide_eq_false h4
   replace h4 : gtB ((ws.length : Int)) ((0 : Int)) = false := h4
   first | exact deadL | exact lfB rfl (nf2 11 rfl) | exact deadS
theorem xs_u (st : XM → XM) (I : XM → Prop) : Go.Sy.Tree.holds (vcX (xStepD st I 62) ⟨code,th,c,3,5,part,i,at_,row,seen,val,value,cause,stamp,made,bk,bst,bse,bsp,true,rs,ws,asked,rows,tk,W,steps,
 lk,la,lv,ls,ld,ybk,ybst,ybse,ybsp⟩ (hpF o 0 60)) = ( (fun (u0 : XM) => sizeD.pre (mp1,()) ∧ (decide ((↑W.length : Int) < 34) = true → Lf (qN st u0) (dsF o 59 51) 1 th c (3 : Int) 5 part (↑i :
 Int) at_ row seen val value cause stamp made bk bst bse bsp true rs ws asked rows tk W steps lk la lv ls ld) ∧ (decide ((↑W.length : Int) < 34) = false → (decide ((↑i : Int) < (↑tk.length : Int)) = true → ((0 : Int) ≤
 (↑i : Int) ∧ (↑i : Int) < (↑tk.length : Int)) ∧ ((0 : Int) ≤ (↑i : Int) ∧ (↑i : Int) < (↑tk.length : Int)) ∧ ((0 : Int) ≤ (↑i : Int) ∧ (↑i : Int) < (↑tk.length : Int)) ∧ ((0 : Int) ≤ (↑i : Int) ∧ (↑i : Int) < (↑tk.length
 : Int)) ∧ badD.pre (Mw.mk W,(at3 tk (↑i : Int)).pl,()) ∧ ((0 : Int) ≤ (at3 tk (↑i : Int)).pl ∧ (at3 tk (↑i : Int)).pl < (↑W.length : Int)) ∧ ((0 : Int) ≤ (at3 tk (↑i : Int)).pl ∧ (at3 tk (↑i : Int)).pl < (↑W.length :
 Int)) ∧ ((0 : Int) ≤ (at3 tk (↑i : Int)).pl ∧ (at3 tk (↑i : Int)).pl < (↑W.length : Int)) ∧ ((0 : Int) ≤ (at3 tk (↑i : Int)).pl ∧ (at3 tk (↑i : Int)).pl < (↑W.length : Int)) ∧ (decide (i64.wrap ((↑i : Int) + 1) <
 (↑tk.length : Int)) = true → Lf (qN st u0) (dsF o 59 51) 0 th c (3 : Int) 5 part (i64.wrap ((↑i : Int) + 1)) at_ row seen val value cause stamp made bk bst bse bsp true rs ws asked rows tk (W.set
 (at3 tk (↑i : Int)).pl.toNat (at3 tk (↑i : Int)).vl) (i64.wrap (steps + 1)) 2 ((at3 tk (↑i : Int)).pl) ((at3 tk (↑i : Int)).vl) (at0 W (at3 tk (↑i : Int)).pl) true) ∧ (decide (i64.wrap ((↑i : Int)
 + 1) < (↑tk.length : Int)) = false → Lf (qN st u0) (dsF o 59 51) 0 th c (3 : Int) 5 part (i64.wrap ((↑i : Int) + 1)) at_ row seen val value cause stamp made bk bst bse bsp true rs ws asked rows tk
 (W.set (at3 tk (↑i : Int)).pl.toNat (at3 tk (↑i : Int)).vl) (i64.wrap (steps + 1)) 2 ((at3 tk (↑i : Int)).pl) ((at3 tk (↑i : Int)).vl) (at0 W (at3 tk (↑i : Int)).pl) true)) ∧ (decide ((↑i : Int) <
 (↑tk.length : Int)) = false → threadD.pre (mp1,th,(0 : Int),()) ∧ badD.pre (Mw.mk W,11 + 2 * th,()) ∧ ((0 : Int) ≤ 11 + 2 * th ∧ 11 + 2 * th < (↑W.length : Int)) ∧ ((0 : Int) ≤ 11 + 2 * th ∧ 11 + 2 * th < (↑W.length : Int)) ∧ ((0 : Int) ≤ 11 + 2 * th ∧ 11 + 2 * th < (↑W.length : Int)) ∧ ((0 : Int) ≤ 11 + 2 * th ∧ 11 + 2 * th < (↑W.length : Int)) ∧ (decide ((↑i : Int) < (↑tk.length : Int)) =
 true → Lf (qN st u0) (dsF o 59 51) 0 th c (3 : Int) 5 part (↑i : Int) at_ row seen val value cause stamp made bk bst bse bsp false rs ws asked rows tk (W.set ((11 : Int) + 2 * th).toNat (0 : Int))
 (i64.wrap (steps + 1)) 2 ((11 : Int) + 2 * th) 0 (at0 W ((11 : Int) + 2 * th)) true) ∧ (decide ((↑i : Int) < (↑tk.length : Int)) = false → Lf (qN st u0) (dsF o 59 51) 2 th c (3 : Int) 0 part (↑i : Int) at_ row seen val value cause stamp made bk bst bse bsp false rs ws asked rows tk (W.set ((11 : Int) + 2 * th).toNat (0 : Int)) (i64.wrap (steps + 1)) 2 ((11 : Int) + 2 * th) 0
 (at0 W ((11 : Int) + 2 * th)) true)))) (XM.mk code th c (3 : Int) 5 part i at_ row seen val value cause stamp made bk bst bse bsp true rs ws asked rows tk W steps lk la lv ls ld ybk ybst ybse ybsp)) := by
 kernel_rfl
theorem xs_u_ok (I : XM → Prop) (hW : W.length = 34) (hth : 0 ≤ th ∧ th < 3) (htk : ∀ w ∈ tk,2 ≤ w.pl ∧ w.pl < 5) (htl : tk.length ≤ 9) : Paid (vcX (xStepD stepX I 62) ⟨code,th,c,3,5,part,i,at_,row,seen,val,value,cause,stamp,made,bk,bst,bse,bsp,true,rs,ws,asked,rows,tk,W,steps,lk,la,lv,ls,ld,ybk,ybst,ybse,ybsp⟩ (hpF o 0 60)) := by
 refine ⟨?_⟩
 rw [xs_u]
 dsimp only
 refine ⟨rfl, ?_, ?_⟩
 ·intro h1
  exact absurd (of_decide_eq_true h1) (by rw [hW]; decide)
 ·intro h2
  refine ⟨?_, ?_⟩
  ·intro h3
   have h3g := of_decide_eq_true h3
   have hu : 2 ≤ (at3 tk (i : Int)).pl ∧ (at3 tk (i : Int)).pl < 5 := by rw [at3_get (show i < tk.length by omega)]; exact htk _ (List.getElem_mem _)
   replace h3 : ltB ((i : Int)) ((tk.length : Int)) = true := h3
   refine ⟨?_, ?_, ?_, ?_,(bad34 hW (show 0 ≤ (at3 tk (↑i : Int)).pl by have := hu; omega) (show (at3 tk (↑i : Int)).pl < 34 by have := hu; omega)), ?_, ?_, ?_, ?_, ?_, ?_⟩
   ·exact ⟨(by omega),(by omega)⟩
   ·exact ⟨(by omega),(by omega)⟩
   ·exact ⟨(by omega),(by omega)⟩
   ·exact ⟨(by omega),(by omega)⟩
   ·exact ⟨(by have := hu; omega),(by rw [hW]; have := hu; omega)⟩
   ·exact ⟨(by have := hu; omega),(by rw [hW]; have := hu; omega)⟩
   ·exact ⟨(by have := hu; omega),(by rw [hW]; have := hu; omega)⟩
   ·exact ⟨(by have := hu; omega),(by rw [hW]; have := hu; omega)⟩
   ·intro h4
    rw [wN (show i < 100000000 by omega)] at h4
    have h4g := of_decide_eq_true h4
    replace h4 : ltB (((i + 1 : Nat) : Int)) ((tk.length : Int)) = true := h4
    first | exact deadL | exact lfB (wN (by omega)) (nf1 5 rfl) | exact deadS
   ·intro h5
    rw [wN (show i < 100000000 by omega)] at h5
    have h5g := of_decide_eq_false h5
    replace h5 : ltB (((i + 1 : Nat) : Int)) ((tk.length : Int)) = false := h5
    first | exact deadL | exact lfB (wN (by omega)) (nf1 5 rfl) | exact deadS
  ·intro h6
   have h6g := of_decide_eq_false h6
   replace h6 : ltB ((i : Int)) ((tk.length : Int)) = false := h6
   refine ⟨⟨rfl,(show 0 ≤ th by omega),(show th < 3 by omega),rfl⟩,(bad34 hW (show 0 ≤ 11 + 2 * th by omega) (show (11 : Int) + 2 * th < 34 by omega)), ?_, ?_, ?_, ?_, ?_, ?_⟩
   ·exact ⟨(by omega),(by rw [hW]; omega)⟩
   ·exact ⟨(by omega),(by rw [hW]; omega)⟩
   ·exact ⟨(by omega),(by rw [hW]; omega)⟩
   ·exact ⟨(by omega),(by rw [hW]; omega)⟩
   ·intro h7
    have h7g := of_decide_eq_true h7
    exact absurd (h6.symm.trans h7) (by decide)
   ·intro h8
    have h8g := of_decide_eq_false h8
    first | exact deadL | exact lfB rfl (nf1 5 rfl) | exact deadS
end Go.Proofs.Ytmjjljngaefpaaa

/- Tl2Two: a step of the program's attempt, from each of its states. -/
import Derived.Test.YtmjjljngaefpaaaXs
namespace Go.Proofs.Ytmjjljngaefpaaa
open Go.RowKit Go.Am Go.Sy
open Go.IntKind (i64 u64)
set_option linter.unusedVariables false
set_option linter.unusedSimpArgs false
variable (code th c part : Int) (i : Nat) (at_ row seen val value cause stamp made bk bst bse bsp : Int) (ph ld : Bool) (rs ws tk : List Wo) (rows W : List Int) (asked steps lk la lv ls ybk ybst ybse ybsp : Int)
variable (o : Nat → Option Ob)
theorem xs_k (st : XM → XM) (I : XM → Prop) : Go.Sy.Tree.holds (vcX (xStepD st I 62) ⟨code,th,c,1,4,7,i,at_,row,seen,val,value,cause,stamp,made,2,1,bse,bsp,true,rs,ws,asked,rows,tk,W,steps,lk,
 la,lv,ls,ld,2,1,bse,bsp⟩ (hpF o 0 60)) = ( (fun (u0 : XM) => sizeD.pre (mp1,()) ∧ (decide ((↑W.length : Int) < 34) = true → Lf (qN st u0) (dsF o 59 51) 1 th c (1 : Int) 4 7 (↑i : Int) at_
 row seen val value cause stamp made (2 : Int) 1 bse bsp true rs ws asked rows tk W steps lk la lv ls ld) ∧ (decide ((↑W.length : Int) < 34) = false → mayD.pre (mp1,()) ∧ sizeD.pre (mp1,()) ∧ (decide ((↑W.length
 : Int) < 34) = true → Lf (qN st u0) (dsF o 59 51) 0 th c (1 : Int) 4 7 (↑i : Int) at_ row seen val value cause stamp made (2 : Int) 1 bse bsp true rs ws asked rows tk W steps lk la lv ls
 ld) ∧ (decide ((↑W.length : Int) < 34) = false → clockD.pre (mp1,()) ∧ badD.pre (Mw.mk W,(0 : Int),()) ∧ ((0 : Int) ≤ 0 ∧ 0 < (↑W.length : Int)) ∧ ((0 : Int) ≤ 0 ∧ 0 < (↑W.length : Int)) ∧ ((at0 W (0 :
 Int) == bse) = true → ((0 : Int) ≤ 0 ∧ 0 < (↑W.length : Int)) ∧ ((0 : Int) ≤ 0 ∧ 0 < (↑W.length : Int)) ∧ ((at0 W (0 : Int) == bse) = true → (decide (i64.wrap (bse + 1) > 1000) = true → (decide
 ((0 : Int) < (↑tk.length : Int)) = true → Lf (qN st u0) (dsF o 59 51) 0 th c (3 : Int) 5 0 0 at_ row seen val value (5 : Int) stamp (0 : Int) 2 9 bse (i64.wrap (bse
 + 1)) true rs ws asked rows tk (W.set (0 : Nat) (i64.wrap (bse + 1))) (i64.wrap (steps + 1)) 3 0 (i64.wrap (bse + 1)) (at0 W (0 : Int)) (at0 W (0 : Int) == bse)) ∧ (decide ((0 :
 Int) < (↑tk.length : Int)) = false → Lf (qN st u0) (dsF o 59 51) 0 th c (3 : Int) 5 0 0 at_ row seen val value (5 : Int) stamp (0 : Int) 2 9 bse (i64.wrap (bse +
 1)) true rs ws asked rows tk (W.set (0 : Nat) (i64.wrap (bse + 1))) (i64.wrap (steps + 1)) 3 0 (i64.wrap (bse + 1)) (at0 W (0 : Int)) (at0 W (0 : Int) == bse))) ∧ (decide
 (i64.wrap (bse + 1) > 1000) = false → (decide ((0 : Int) < (↑rs.length : Int)) = true → Lf (qN st u0) (dsF o 59 51) 0 th c (1 : Int) 4 8 0 at_ row seen val value cause stamp
 (i64.wrap (bse + 1)) 2 9 bse (i64.wrap (bse + 1)) true rs ws asked rows tk (W.set (0 : Nat) (i64.wrap (bse + 1))) (i64.wrap (steps + 1)) 3 0
 (i64.wrap (bse + 1)) (at0 W (0 : Int)) (at0 W (0 : Int) == bse)) ∧ (decide ((0 : Int) < (↑rs.length : Int)) = false → (decide ((0 : Int) < (↑ws.length : Int)) = true → Lf (qN st u0) (dsF o 59 51) 0 th c
 2 4 9 0 at_ row seen val value cause stamp (i64.wrap (bse + 1)) 2 9 bse (i64.wrap (bse + 1)) true rs ws asked rows tk (W.set (0 : Nat) (i64.wrap
 (bse + 1))) (i64.wrap (steps + 1)) 3 0 (i64.wrap (bse + 1)) (at0 W (0 : Int)) (at0 W (0 : Int) == bse)) ∧ (decide ((0 : Int) < (↑ws.length : Int)) = false → (decide ((0 : Int) ≥
 (↑rows.length : Int)) = true → Lf (qN st u0) (dsF o 59 51) 0 th c (2 : Int) 4 11 0 at_ row seen val value cause stamp (i64.wrap (bse + 1)) 2 9 bse (i64.wrap
 (bse + 1)) true rs ws asked rows tk (W.set (0 : Nat) (i64.wrap (bse + 1))) (i64.wrap (steps + 1)) 3 0 (i64.wrap (bse + 1)) (at0 W (0 : Int)) (at0 W (0 : Int) == bse)) ∧ (decide ((0
 : Int) ≥ (↑rows.length : Int)) = false → Lf (qN st u0) (dsF o 59 51) 0 th c (2 : Int) 4 10 0 at_ row seen val value cause stamp (i64.wrap (bse + 1)) 2 9 bse
 (i64.wrap (bse + 1)) true rs ws asked rows tk (W.set (0 : Nat) (i64.wrap (bse + 1))) (i64.wrap (steps + 1)) 3 0 (i64.wrap (bse + 1)) (at0 W (0 : Int)) (at0 W (0 : Int) ==
 bse)))))) ∧ ((at0 W (0 : Int) == bse) = false → (decide (at0 W (0 : Int) > 1000) = true → (decide ((0 : Int) < (↑tk.length : Int)) = true → Lf (qN st u0) (dsF o 59 51) 0 th c (3 : Int) 5 0 0 at_ row seen val value (5 : Int) stamp (0 : Int) 2 9 bse (at0 W (0 : Int)) true rs ws asked rows tk (W.set (0 : Nat) (i64.wrap (bse + 1))) (i64.wrap (steps + 1)) 3 0
 (i64.wrap (bse + 1)) (at0 W (0 : Int)) (at0 W (0 : Int) == bse)) ∧ (decide ((0 : Int) < (↑tk.length : Int)) = false → Lf (qN st u0) (dsF o 59 51) 0 th c (3 : Int) 5 0 0 at_ row
 seen val value (5 : Int) stamp (0 : Int) 2 9 bse (at0 W (0 : Int)) true rs ws asked rows tk (W.set (0 : Nat) (i64.wrap (bse + 1))) (i64.wrap (steps + 1)) 3 0
 (i64.wrap (bse + 1)) (at0 W (0 : Int)) (at0 W (0 : Int) == bse))) ∧ (decide (at0 W (0 : Int) > 1000) = false → (decide ((0 : Int) < (↑rs.length : Int)) = true → Lf (qN st u0) (dsF o 59 51) 0 th c (1 :
 Int) 4 8 0 at_ row seen val value cause stamp (at0 W (0 : Int)) 2 9 bse (at0 W (0 : Int)) true rs ws asked rows tk (W.set (0 : Nat) (i64.wrap (bse + 1))) (i64.wrap
 (steps + 1)) 3 0 (i64.wrap (bse + 1)) (at0 W (0 : Int)) (at0 W (0 : Int) == bse)) ∧ (decide ((0 : Int) < (↑rs.length : Int)) = false → (decide ((0 : Int) < (↑ws.length : Int)) = true → Lf (qN st
 u0) (dsF o 59 51) 0 th c (2 : Int) 4 9 0 at_ row seen val value cause stamp (at0 W (0 : Int)) 2 9 bse (at0 W (0 : Int)) true rs ws asked rows tk (W.set (0 : Nat)
 (i64.wrap (bse + 1))) (i64.wrap (steps + 1)) 3 0 (i64.wrap (bse + 1)) (at0 W (0 : Int)) (at0 W (0 : Int) == bse)) ∧ (decide ((0 : Int) < (↑ws.length : Int)) = false → (decide ((0 :
 Int) ≥ (↑rows.length : Int)) = true → Lf (qN st u0) (dsF o 59 51) 0 th c (2 : Int) 4 11 0 at_ row seen val value cause stamp (at0 W (0 : Int)) 2 9 bse (at0 W (0 : Int))
 true rs ws asked rows tk (W.set (0 : Nat) (i64.wrap (bse + 1))) (i64.wrap (steps + 1)) 3 0 (i64.wrap (bse + 1)) (at0 W (0 : Int)) (at0 W (0 : Int) == bse)) ∧ (decide ((0 : Int) ≥
 (↑rows.length : Int)) = false → Lf (qN st u0) (dsF o 59 51) 0 th c (2 : Int) 4 10 0 at_ row seen val value cause stamp (at0 W (0 : Int)) 2 9 bse (at0 W (0 : Int)) true rs
 ws asked rows tk (W.set (0 : Nat) (i64.wrap (bse + 1))) (i64.wrap (steps + 1)) 3 0 (i64.wrap (bse + 1)) (at0 W (0 : Int)) (at0 W (0 : Int) == bse))))))) ∧ ((at0 W (0 : Int) == bse)
 = false → ((at0 W (0 : Int) == bse) = true → (decide (i64.wrap (bse + 1) > 1000) = true → (decide ((0 : Int) < (↑tk.length : Int)) = true → Lf (qN st u0) (dsF o 59 51) 0 th c (3 : Int) 5 0
 0 at_ row seen val value (5 : Int) stamp (0 : Int) 2 9 bse (i64.wrap (bse + 1)) true rs ws asked rows tk W (i64.wrap (steps + 1)) 3 0 (i64.wrap (bse + 1))
 (at0 W (0 : Int)) (at0 W (0 : Int) == bse)) ∧ (decide ((0 : Int) < (↑tk.length : Int)) = false → Lf (qN st u0) (dsF o 59 51) 0 th c (3 : Int) 5 0 0 at_ row seen val value (5 : Int) stamp
 0 2 9 bse (i64.wrap (bse + 1)) true rs ws asked rows tk W (i64.wrap (steps + 1)) 3 0 (i64.wrap (bse + 1)) (at0 W (0 : Int)) (at0 W (0 : Int) == bse))) ∧
 (decide (i64.wrap (bse + 1) > 1000) = false → (decide ((0 : Int) < (↑rs.length : Int)) = true → Lf (qN st u0) (dsF o 59 51) 0 th c (1 : Int) 4 8 0 at_ row seen val value cause
 stamp (i64.wrap (bse + 1)) 2 9 bse (i64.wrap (bse + 1)) true rs ws asked rows tk W (i64.wrap (steps + 1)) 3 0 (i64.wrap (bse + 1)) (at0 W (0 : Int)) (at0 W
 (0 : Int) == bse)) ∧ (decide ((0 : Int) < (↑rs.length : Int)) = false → (decide ((0 : Int) < (↑ws.length : Int)) = true → Lf (qN st u0) (dsF o 59 51) 0 th c (2 : Int) 4 9 0 at_ row seen
 val value cause stamp (i64.wrap (bse + 1)) 2 9 bse (i64.wrap (bse + 1)) true rs ws asked rows tk W (i64.wrap (steps + 1)) 3 0 (i64.wrap (bse + 1)) (at0 W (0
 : Int)) (at0 W (0 : Int) == bse)) ∧ (decide ((0 : Int) < (↑ws.length : Int)) = false → (decide ((0 : Int) ≥ (↑rows.length : Int)) = true → Lf (qN st u0) (dsF o 59 51) 0 th c (2 : Int) 4 11 0 at_ row seen val value cause stamp (i64.wrap (bse + 1)) 2 9 bse (i64.wrap (bse + 1)) true rs ws asked rows tk W (i64.wrap (steps + 1)) 3 0 (i64.wrap
 (bse + 1)) (at0 W (0 : Int)) (at0 W (0 : Int) == bse)) ∧ (decide ((0 : Int) ≥ (↑rows.length : Int)) = false → Lf (qN st u0) (dsF o 59 51) 0 th c (2 : Int) 4 10 0 at_ row seen val value
 cause stamp (i64.wrap (bse + 1)) 2 9 bse (i64.wrap (bse + 1)) true rs ws asked rows tk W (i64.wrap (steps + 1)) 3 0 (i64.wrap (bse + 1)) (at0 W (0 : Int))
 (at0 W (0 : Int) == bse)))))) ∧ ((at0 W (0 : Int) == bse) = false → (decide (at0 W (0 : Int) > 1000) = true → (decide ((0 : Int) < (↑tk.length : Int)) = true → Lf (qN st u0) (dsF o 59 51) 0 th c (3 : Int) 5 0 0 at_ row seen val value (5 : Int) stamp (0 : Int) 2 9 bse (at0 W (0 : Int)) true rs ws asked rows tk W (i64.wrap (steps + 1)) 3 0 (i64.wrap (bse +
 1)) (at0 W (0 : Int)) (at0 W (0 : Int) == bse)) ∧ (decide ((0 : Int) < (↑tk.length : Int)) = false → Lf (qN st u0) (dsF o 59 51) 0 th c (3 : Int) 5 0 0 at_ row seen val value (5 : Int)
 stamp (0 : Int) 2 9 bse (at0 W (0 : Int)) true rs ws asked rows tk W (i64.wrap (steps + 1)) 3 0 (i64.wrap (bse + 1)) (at0 W (0 : Int)) (at0 W (0 : Int) == bse))) ∧ (decide
 (at0 W (0 : Int) > 1000) = false → (decide ((0 : Int) < (↑rs.length : Int)) = true → Lf (qN st u0) (dsF o 59 51) 0 th c (1 : Int) 4 8 0 at_ row seen val value cause stamp (at0 W (0 : Int))
 2 9 bse (at0 W (0 : Int)) true rs ws asked rows tk W (i64.wrap (steps + 1)) 3 0 (i64.wrap (bse + 1)) (at0 W (0 : Int)) (at0 W (0 : Int) == bse)) ∧ (decide ((0 : Int) <
 (↑rs.length : Int)) = false → (decide ((0 : Int) < (↑ws.length : Int)) = true → Lf (qN st u0) (dsF o 59 51) 0 th c (2 : Int) 4 9 0 at_ row seen val value cause stamp (at0 W (0 : Int)) 2 9 bse (at0 W (0 : Int)) true rs ws asked rows tk W (i64.wrap (steps + 1)) 3 0 (i64.wrap (bse + 1)) (at0 W (0 : Int)) (at0 W (0 : Int) == bse)) ∧ (decide ((0 : Int) <
 (↑ws.length : Int)) = false → (decide ((0 : Int) ≥ (↑rows.length : Int)) = true → Lf (qN st u0) (dsF o 59 51) 0 th c (2 : Int) 4 11 0 at_ row seen val value cause stamp (at0 W (0 : Int))
 2 9 bse (at0 W (0 : Int)) true rs ws asked rows tk W (i64.wrap (steps + 1)) 3 0 (i64.wrap (bse + 1)) (at0 W (0 : Int)) (at0 W (0 : Int) == bse)) ∧ (decide ((0 : Int) ≥
 (↑rows.length : Int)) = false → Lf (qN st u0) (dsF o 59 51) 0 th c (2 : Int) 4 10 0 at_ row seen val value cause stamp (at0 W (0 : Int)) 2 9 bse (at0 W (0 : Int)) true rs
 ws asked rows tk W (i64.wrap (steps + 1)) 3 0 (i64.wrap (bse + 1)) (at0 W (0 : Int)) (at0 W (0 : Int) == bse)))))))))) (XM.mk code th c (1 : Int) 4 7 i at_ row seen val
 value cause stamp made (2 : Int) 1 bse bsp true rs ws asked rows tk W steps lk la lv ls ld (2 : Int) 1 bse bsp)) := by kernel_rfl
theorem xs_k_ok (I : XM → Prop) (hW : W.length = 34) (hws : 0 < ws.length) (hw9 : ws.length ≤ 9) : Paid (vcX (xStepD stepX I 62) ⟨code,th,c,1,4,7,i,at_,row,seen,val,value,cause,stamp,made,2,1,bse,bsp,true,rs,ws,asked,rows,tk,W,steps,lk,la,lv,ls,ld,2,1,bse,bsp⟩ (hpF o 0 60)) := by
 refine ⟨?_⟩
 rw [xs_k]
 dsimp only
 refine ⟨rfl, ?_, ?_⟩
 ·intro h1
  exact absurd (of_decide_eq_true h1) (by rw [hW]; decide)
 ·intro h2
  refine ⟨rfl,rfl, ?_, ?_⟩
  ·intro h3
   exact absurd (of_decide_eq_true h3) (by rw [hW]; decide)
  ·intro h4
   refine ⟨rfl,(bad34 hW (show 0 ≤ 0 by omega) (show (0 : Int) < 34 by omega)), ?_, ?_, ?_, ?_⟩
   ·exact ⟨(by omega),(by rw [hW]; omega)⟩
   ·exact ⟨(by omega),(by rw [hW]; omega)⟩
   ·intro h5
    refine ⟨?_, ?_, ?_, ?_⟩
    ·exact ⟨(by omega),(by rw [hW]; omega)⟩
    ·exact ⟨(by omega),(by rw [hW]; omega)⟩
    ·intro h6
     refine ⟨?_, ?_⟩
     ·intro h7
      have h7g := of_decide_eq_true h7
      replace h7 : gtB (i64.wrap (bse + 1)) ((1000 : Int)) = true := h7
      refine ⟨?_, ?_⟩
      ·intro h8
       have h8g := of_decide_eq_true h8
       replace h8 : ltB ((0 : Int)) ((tk.length : Int)) = true := h8
       first | exact deadL | exact lfB rfl (nf2 7 rfl) | exact deadS
      ·intro h9
       have h9g := of_decide_eq_false h9
       replace h9 : ltB ((0 : Int)) ((tk.length : Int)) = false := h9
       first | exact deadL | exact lfB rfl (nf2 7 rfl) | exact deadS
     ·intro h10
      have h10g := of_decide_eq_false h10
      replace h10 : gtB (i64.wrap (bse + 1)) ((1000 : Int)) = false := h10
      refine ⟨?_, ?_⟩
      ·intro h11
       have h11g := of_decide_eq_true h11
       replace h11 : ltB ((0 : Int)) ((rs.length : Int)) = true := h11
       first | exact deadL | exact lfB rfl (nf2 7 rfl) | exact deadS
      ·intro h12
       have h12g := of_decide_eq_false h12
       replace h12 : ltB ((0 : Int)) ((rs.length : Int)) = false := h12
       refine ⟨?_, ?_⟩
       ·intro h13
        have h13g := of_decide_eq_true h13
        replace h13 : ltB ((0 : Int)) ((ws.length : Int)) = true := h13
        first | exact deadL | exact lfB rfl (nf2 7 rfl) | exact deadS
       ·intro h14
        have h14g := of_decide_eq_false h14
        replace h14 : ltB ((0 : Int)) ((ws.length : Int)) = false := h14
        refine ⟨?_, ?_⟩
        ·intro h15
         have h15g := of_decide_eq_true h15
         replace h15 : geB ((0 : Int)) ((rows.length : Int)) = true := h15
         first | exact deadL | exact lfB rfl (nf2 7 rfl) | exact deadS
        ·intro h16
         have h16g := of_decide_eq_false h16
         replace h16 : geB ((0 : Int)) ((rows.length : Int)) = false := h16
         first | exact deadL | exact lfB rfl (nf2 7 rfl) | exact deadS
    ·intro h17
     exact absurd (h5.symm.trans h17) (by decide)
   ·intro h18
    refine ⟨?_, ?_⟩
    ·intro h19
     exact absurd (h18.symm.trans h19) (by decide)
    ·intro h20
     refine ⟨?_, ?_⟩
     ·intro h21
      have h21g := of_decide_eq_true h21
      replace h21 : gtB (at0 W (0 : Int)) ((1000 : Int)) = true := h21
      refine ⟨?_, ?_⟩
      ·intro h22
       have h22g := of_decide_eq_true h22
       replace h22 : ltB ((0 : Int)) ((tk.length : Int)) = true := h22
       first | exact deadL | exact lfB rfl (nf2 7 rfl) | exact deadS
      ·intro h23
       have h23g := of_decide_eq_false h23
       replace h23 : ltB ((0 : Int)) ((tk.length : Int)) = false := h23
       first | exact deadL | exact lfB rfl (nf2 7 rfl) | exact deadS
     ·intro h24
      have h24g := of_decide_eq_false h24
      replace h24 : gtB (at0 W (0 : Int)) ((1000 : Int)) = false := h24
      refine ⟨?_, ?_⟩
      ·intro h25
       have h25g := of_decide_eq_true h25
       replace h25 : ltB ((0 : Int)) ((rs.length : Int)) = true := h25
       first | exact deadL | exact lfB rfl (nf2 7 rfl) | exact deadS
      ·intro h26
       have h26g := of_decide_eq_false h26
       replace h26 : ltB ((0 : Int)) ((rs.length : Int)) = false := h26
       refine ⟨?_, ?_⟩
       ·intro h27
        have h27g := of_decide_eq_true h27
        replace h27 : ltB ((0 : Int)) ((ws.length : Int)) = true := h27
        first | exact deadL | exact lfB rfl (nf2 7 rfl) | exact deadS
       ·intro h28
        have h28g := of_decide_eq_false h28
        replace h28 : ltB ((0 : Int)) ((ws.length : Int)) = false := h28
        refine ⟨?_, ?_⟩
        ·intro h29
         have h29g := of_decide_eq_true h29
         replace h29 : geB ((0 : Int)) ((rows.length : Int)) = true := h29
         first | exact deadL | exact lfB rfl (nf2 7 rfl) | exact deadS
        ·intro h30
         have h30g := of_decide_eq_false h30
         replace h30 : geB ((0 : Int)) ((rows.length : Int)) = false := h30
         first | exact deadL | exact lfB rfl (nf2 7 rfl) | exact deadS
end Go.Proofs.Ytmjjljngaefpaaa

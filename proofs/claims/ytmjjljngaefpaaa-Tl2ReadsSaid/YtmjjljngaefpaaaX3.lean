/- Tl2Two: a step of the program's attempt, from each of its states. -/
import Derived.Test.YtmjjljngaefpaaaXs
namespace Go.Proofs.Ytmjjljngaefpaaa
open Go.RowKit Go.Am Go.Sy
open Go.IntKind (i64 u64)
set_option linter.unusedVariables false
set_option linter.unusedSimpArgs false
variable (code th c part : Int) (i : Nat) (at_ row seen val value cause stamp made bk bst bse bsp : Int) (ph ld : Bool) (rs ws tk : List Wo) (rows W : List Int) (asked steps lk la lv ls ybk ybst ybse ybsp : Int)
variable (o : Nat → Option Ob)
theorem xs_c1 (st : XM → XM) (I : XM → Prop) : Go.Sy.Tree.holds (vcX (xStepD st I 62) ⟨code,th,c,1,4,8,i,at_,row,seen,val,value,cause,stamp,made,1,9,bse,bsp,true,rs,ws,asked,rows,tk,W,steps,lk,
 la,lv,ls,ld,ybk,ybst,ybse,ybsp⟩ (hpF o 0 60)) = ( (fun (u0 : XM) => sizeD.pre (mp1,()) ∧ (decide ((↑W.length : Int) < 34) = true → Lf (qN st u0) (dsF o 59 51) 1 th c (1 : Int) 4 8 (↑i :
 Int) at_ row seen val value cause stamp made (1 : Int) 9 bse bsp true rs ws asked rows tk W steps lk la lv ls ld) ∧ (decide ((↑W.length : Int) < 34) = false → atD.pre (Rs.mk (32 : Int) rs,(↑i : Int),()) ∧
 stripeD.pre (mp1,(at3 (Rs.mk (32 : Int) rs).ls (↑i : Int)).pl,()) ∧ badD.pre (Mw.mk W,2 + (at3 (Rs.mk (32 : Int) rs).ls (↑i : Int)).pl,()) ∧ ((0 : Int) ≤ 2 + (at3 (Rs.mk (32 : Int) rs).ls (↑i : Int)).pl ∧ 2 + (at3 (Rs.mk (32 : Int) rs).ls (↑i : Int)).pl < (↑W.length : Int)) ∧ ((0 : Int) ≤ 2 + (at3 (Rs.mk (32 : Int) rs).ls (↑i : Int)).pl ∧ 2 + (at3 (Rs.mk (32 : Int) rs).ls (↑i : Int)).pl < (↑W.length : Int)) ∧
 holderD.pre (at0 W ((2 : Int) + (at3 (Rs.mk (32 : Int) rs).ls (↑i : Int)).pl),()) ∧ (decide (at0 W ((2 : Int) + (at3 (Rs.mk (32 : Int) rs).ls (↑i : Int)).pl) % 16 - 1 ≥ 0) = true → ((at0 W ((2 : Int) +
 (at3 (Rs.mk (32 : Int) rs).ls (↑i : Int)).pl) % 16 - 1 != th) = true → (decide ((0 : Int) < (↑tk.length : Int)) = true → Lf (qN st u0) (dsF o 59 51) 0 th c (3 : Int) 5 0 0 at_ row
 seen val value (1 : Int) stamp (0 : Int) 1 9 bse bsp true rs ws asked rows tk W (i64.wrap (steps + 1)) 1 ((2 : Int) + (at3 (Rs.mk (32 : Int) rs).ls (↑i : Int)).pl) (at0 W ((2 : Int) + (at3
 (Rs.mk (32 : Int) rs).ls (↑i : Int)).pl)) (at0 W ((2 : Int) + (at3 (Rs.mk (32 : Int) rs).ls (↑i : Int)).pl)) true) ∧ (decide ((0 : Int) < (↑tk.length : Int)) = false → Lf (qN st u0) (dsF o 59 51) 0 th c (3 : Int)
 5 0 0 at_ row seen val value (1 : Int) stamp (0 : Int) 1 9 bse bsp true rs ws asked rows tk W (i64.wrap (steps + 1)) 1 ((2 : Int) + (at3 (Rs.mk (32 : Int) rs).ls
 (↑i : Int)).pl) (at0 W ((2 : Int) + (at3 (Rs.mk (32 : Int) rs).ls (↑i : Int)).pl)) (at0 W ((2 : Int) + (at3 (Rs.mk (32 : Int) rs).ls (↑i : Int)).pl)) true)) ∧ ((at0 W ((2 : Int) + (at3 (Rs.mk (32 : Int) rs).ls (↑i :
 Int)).pl) % 16 - 1 != th) = false → versionD.pre (at0 W ((2 : Int) + (at3 (Rs.mk (32 : Int) rs).ls (↑i : Int)).pl),()) ∧ (decide (at0 W ((2 : Int) + (at3 (Rs.mk (32 : Int) rs).ls (↑i : Int)).pl) / 16 >
 stamp) = true → (decide ((0 : Int) < (↑tk.length : Int)) = true → Lf (qN st u0) (dsF o 59 51) 0 th c (3 : Int) 5 0 0 at_ row seen val value (2 : Int) stamp (0 : Int) 1 9
 bse bsp true rs ws asked rows tk W (i64.wrap (steps + 1)) 1 ((2 : Int) + (at3 (Rs.mk (32 : Int) rs).ls (↑i : Int)).pl) (at0 W ((2 : Int) + (at3 (Rs.mk (32 : Int) rs).ls (↑i : Int)).pl)) (at0 W ((2 : Int)
 + (at3 (Rs.mk (32 : Int) rs).ls (↑i : Int)).pl)) true) ∧ (decide ((0 : Int) < (↑tk.length : Int)) = false → Lf (qN st u0) (dsF o 59 51) 0 th c (3 : Int) 5 0 0 at_ row seen val value (2 :
 Int) stamp (0 : Int) 1 9 bse bsp true rs ws asked rows tk W (i64.wrap (steps + 1)) 1 ((2 : Int) + (at3 (Rs.mk (32 : Int) rs).ls (↑i : Int)).pl) (at0 W ((2 : Int) + (at3 (Rs.mk (32 : Int)
 rs).ls (↑i : Int)).pl)) (at0 W ((2 : Int) + (at3 (Rs.mk (32 : Int) rs).ls (↑i : Int)).pl)) true)) ∧ (decide (at0 W ((2 : Int) + (at3 (Rs.mk (32 : Int) rs).ls (↑i : Int)).pl) / 16 > stamp) = false → (decide
 (i64.wrap ((↑i : Int) + 1) < (↑rs.length : Int)) = true → ((!made == i64.wrap (stamp + 1)) = true → Lf (qN st u0) (dsF o 59 51) 0 th c (1 : Int) 4 8 (i64.wrap ((↑i : Int) +
 1)) at_ row seen val value cause stamp made (1 : Int) 9 bse bsp true rs ws asked rows tk W (i64.wrap (steps + 1)) 1 ((2 : Int) + (at3 (Rs.mk (32 : Int) rs).ls (↑i : Int)).pl) (at0 W ((2 : Int) +
 (at3 (Rs.mk (32 : Int) rs).ls (↑i : Int)).pl)) (at0 W ((2 : Int) + (at3 (Rs.mk (32 : Int) rs).ls (↑i : Int)).pl)) true) ∧ ((!made == i64.wrap (stamp + 1)) = false → (decide ((0 : Int) < (↑ws.length : Int)) = true
 → Lf (qN st u0) (dsF o 59 51) 0 th c (2 : Int) 4 9 0 at_ row seen val value cause stamp made (1 : Int) 9 bse bsp true rs ws asked rows tk W (i64.wrap (steps + 1)) 1
 ((2 : Int) + (at3 (Rs.mk (32 : Int) rs).ls (↑i : Int)).pl) (at0 W ((2 : Int) + (at3 (Rs.mk (32 : Int) rs).ls (↑i : Int)).pl)) (at0 W ((2 : Int) + (at3 (Rs.mk (32 : Int) rs).ls (↑i : Int)).pl)) true) ∧ (decide ((0 : Int)
 < (↑ws.length : Int)) = false → (decide ((0 : Int) ≥ (↑rows.length : Int)) = true → Lf (qN st u0) (dsF o 59 51) 0 th c (2 : Int) 4 11 0 at_ row seen val value cause stamp made (1 : Int) 9 bse bsp true rs ws asked rows tk W (i64.wrap (steps + 1)) 1 ((2 : Int) + (at3 (Rs.mk (32 : Int) rs).ls (↑i : Int)).pl) (at0 W ((2 : Int) + (at3 (Rs.mk (32 : Int) rs).ls (↑i : Int)).pl)) (at0 W ((2
 : Int) + (at3 (Rs.mk (32 : Int) rs).ls (↑i : Int)).pl)) true) ∧ (decide ((0 : Int) ≥ (↑rows.length : Int)) = false → Lf (qN st u0) (dsF o 59 51) 0 th c (2 : Int) 4 10 0 at_ row seen val
 value cause stamp made (1 : Int) 9 bse bsp true rs ws asked rows tk W (i64.wrap (steps + 1)) 1 ((2 : Int) + (at3 (Rs.mk (32 : Int) rs).ls (↑i : Int)).pl) (at0 W ((2 : Int) + (at3 (Rs.mk (32 : Int)
 rs).ls (↑i : Int)).pl)) (at0 W ((2 : Int) + (at3 (Rs.mk (32 : Int) rs).ls (↑i : Int)).pl)) true)))) ∧ (decide (i64.wrap ((↑i : Int) + 1) < (↑rs.length : Int)) = false → (decide ((0 : Int) < (↑ws.length : Int)) =
 true → Lf (qN st u0) (dsF o 59 51) 0 th c (2 : Int) 4 9 0 at_ row seen val value cause stamp made (1 : Int) 9 bse bsp true rs ws asked rows tk W (i64.wrap (steps + 1)) 1 ((2 : Int) + (at3 (Rs.mk (32 : Int) rs).ls (↑i : Int)).pl) (at0 W ((2 : Int) + (at3 (Rs.mk (32 : Int) rs).ls (↑i : Int)).pl)) (at0 W ((2 : Int) + (at3 (Rs.mk (32 : Int) rs).ls (↑i : Int)).pl)) true) ∧ (decide ((0 :
 Int) < (↑ws.length : Int)) = false → (decide ((0 : Int) ≥ (↑rows.length : Int)) = true → Lf (qN st u0) (dsF o 59 51) 0 th c (2 : Int) 4 11 0 at_ row seen val value cause stamp made (1 :
 Int) 9 bse bsp true rs ws asked rows tk W (i64.wrap (steps + 1)) 1 ((2 : Int) + (at3 (Rs.mk (32 : Int) rs).ls (↑i : Int)).pl) (at0 W ((2 : Int) + (at3 (Rs.mk (32 : Int) rs).ls (↑i : Int)).pl))
 (at0 W ((2 : Int) + (at3 (Rs.mk (32 : Int) rs).ls (↑i : Int)).pl)) true) ∧ (decide ((0 : Int) ≥ (↑rows.length : Int)) = false → Lf (qN st u0) (dsF o 59 51) 0 th c (2 : Int) 4 10 0 at_ row
 seen val value cause stamp made (1 : Int) 9 bse bsp true rs ws asked rows tk W (i64.wrap (steps + 1)) 1 ((2 : Int) + (at3 (Rs.mk (32 : Int) rs).ls (↑i : Int)).pl) (at0 W ((2 : Int) + (at3 (Rs.mk
 32 rs).ls (↑i : Int)).pl)) (at0 W ((2 : Int) + (at3 (Rs.mk (32 : Int) rs).ls (↑i : Int)).pl)) true)))))) ∧ (decide (at0 W ((2 : Int) + (at3 (Rs.mk (32 : Int) rs).ls (↑i : Int)).pl) % 16 - 1 ≥ 0) =
 false → versionD.pre (at0 W ((2 : Int) + (at3 (Rs.mk (32 : Int) rs).ls (↑i : Int)).pl),()) ∧ (decide (at0 W ((2 : Int) + (at3 (Rs.mk (32 : Int) rs).ls (↑i : Int)).pl) / 16 > stamp) = true → (decide ((0 : Int) <
 (↑tk.length : Int)) = true → Lf (qN st u0) (dsF o 59 51) 0 th c (3 : Int) 5 0 0 at_ row seen val value (2 : Int) stamp (0 : Int) 1 9 bse bsp true rs ws asked rows tk W
 (i64.wrap (steps + 1)) 1 ((2 : Int) + (at3 (Rs.mk (32 : Int) rs).ls (↑i : Int)).pl) (at0 W ((2 : Int) + (at3 (Rs.mk (32 : Int) rs).ls (↑i : Int)).pl)) (at0 W ((2 : Int) + (at3 (Rs.mk (32 : Int) rs).ls (↑i
 : Int)).pl)) true) ∧ (decide ((0 : Int) < (↑tk.length : Int)) = false → Lf (qN st u0) (dsF o 59 51) 0 th c (3 : Int) 5 0 0 at_ row seen val value (2 : Int) stamp (0 : Int) 1 9 bse bsp true rs ws asked rows tk W (i64.wrap (steps + 1)) 1 ((2 : Int) + (at3 (Rs.mk (32 : Int) rs).ls (↑i : Int)).pl) (at0 W ((2 : Int) + (at3 (Rs.mk (32 : Int) rs).ls (↑i : Int)).pl)) (at0 W ((2 :
 Int) + (at3 (Rs.mk (32 : Int) rs).ls (↑i : Int)).pl)) true)) ∧ (decide (at0 W ((2 : Int) + (at3 (Rs.mk (32 : Int) rs).ls (↑i : Int)).pl) / 16 > stamp) = false → (decide (i64.wrap ((↑i : Int) + 1) <
 (↑rs.length : Int)) = true → ((!made == i64.wrap (stamp + 1)) = true → Lf (qN st u0) (dsF o 59 51) 0 th c (1 : Int) 4 8 (i64.wrap ((↑i : Int) + 1)) at_ row seen val value cause
 stamp made (1 : Int) 9 bse bsp true rs ws asked rows tk W (i64.wrap (steps + 1)) 1 ((2 : Int) + (at3 (Rs.mk (32 : Int) rs).ls (↑i : Int)).pl) (at0 W ((2 : Int) + (at3 (Rs.mk (32 : Int) rs).ls (↑i
 : Int)).pl)) (at0 W ((2 : Int) + (at3 (Rs.mk (32 : Int) rs).ls (↑i : Int)).pl)) true) ∧ ((!made == i64.wrap (stamp + 1)) = false → (decide ((0 : Int) < (↑ws.length : Int)) = true → Lf (qN st u0) (dsF o 59 51) 0 th c (2 : Int) 4 9 0 at_ row seen val value cause stamp made (1 : Int) 9 bse bsp true rs ws asked rows tk W (i64.wrap (steps + 1)) 1 ((2 : Int) + (at3 (Rs.mk (32 :
 Int) rs).ls (↑i : Int)).pl) (at0 W ((2 : Int) + (at3 (Rs.mk (32 : Int) rs).ls (↑i : Int)).pl)) (at0 W ((2 : Int) + (at3 (Rs.mk (32 : Int) rs).ls (↑i : Int)).pl)) true) ∧ (decide ((0 : Int) < (↑ws.length : Int)) = false →
 (decide ((0 : Int) ≥ (↑rows.length : Int)) = true → Lf (qN st u0) (dsF o 59 51) 0 th c (2 : Int) 4 11 0 at_ row seen val value cause stamp made (1 : Int) 9 bse bsp true rs ws asked
 rows tk W (i64.wrap (steps + 1)) 1 ((2 : Int) + (at3 (Rs.mk (32 : Int) rs).ls (↑i : Int)).pl) (at0 W ((2 : Int) + (at3 (Rs.mk (32 : Int) rs).ls (↑i : Int)).pl)) (at0 W ((2 : Int) + (at3 (Rs.mk (32 : Int)
 rs).ls (↑i : Int)).pl)) true) ∧ (decide ((0 : Int) ≥ (↑rows.length : Int)) = false → Lf (qN st u0) (dsF o 59 51) 0 th c (2 : Int) 4 10 0 at_ row seen val value cause stamp made (1 : Int)
 9 bse bsp true rs ws asked rows tk W (i64.wrap (steps + 1)) 1 ((2 : Int) + (at3 (Rs.mk (32 : Int) rs).ls (↑i : Int)).pl) (at0 W ((2 : Int) + (at3 (Rs.mk (32 : Int) rs).ls (↑i : Int)).pl)) (at0 W
 ((2 : Int) + (at3 (Rs.mk (32 : Int) rs).ls (↑i : Int)).pl)) true)))) ∧ (decide (i64.wrap ((↑i : Int) + 1) < (↑rs.length : Int)) = false → (decide ((0 : Int) < (↑ws.length : Int)) = true → Lf (qN st u0) (dsF o 59
 51) 0 th c (2 : Int) 4 9 0 at_ row seen val value cause stamp made (1 : Int) 9 bse bsp true rs ws asked rows tk W (i64.wrap (steps + 1)) 1 ((2 : Int) + (at3 (Rs.mk
 32 rs).ls (↑i : Int)).pl) (at0 W ((2 : Int) + (at3 (Rs.mk (32 : Int) rs).ls (↑i : Int)).pl)) (at0 W ((2 : Int) + (at3 (Rs.mk (32 : Int) rs).ls (↑i : Int)).pl)) true) ∧ (decide ((0 : Int) < (↑ws.length : Int)) =
 false → (decide ((0 : Int) ≥ (↑rows.length : Int)) = true → Lf (qN st u0) (dsF o 59 51) 0 th c (2 : Int) 4 11 0 at_ row seen val value cause stamp made (1 : Int) 9 bse bsp true rs
 ws asked rows tk W (i64.wrap (steps + 1)) 1 ((2 : Int) + (at3 (Rs.mk (32 : Int) rs).ls (↑i : Int)).pl) (at0 W ((2 : Int) + (at3 (Rs.mk (32 : Int) rs).ls (↑i : Int)).pl)) (at0 W ((2 : Int) + (at3 (Rs.mk
 32 rs).ls (↑i : Int)).pl)) true) ∧ (decide ((0 : Int) ≥ (↑rows.length : Int)) = false → Lf (qN st u0) (dsF o 59 51) 0 th c (2 : Int) 4 10 0 at_ row seen val value cause stamp made
 1 9 bse bsp true rs ws asked rows tk W (i64.wrap (steps + 1)) 1 ((2 : Int) + (at3 (Rs.mk (32 : Int) rs).ls (↑i : Int)).pl) (at0 W ((2 : Int) + (at3 (Rs.mk (32 : Int) rs).ls (↑i :
 Int)).pl)) (at0 W ((2 : Int) + (at3 (Rs.mk (32 : Int) rs).ls (↑i : Int)).pl)) true))))))) (XM.mk code th c (1 : Int) 4 8 i at_ row seen val value cause stamp made (1 : Int) 9 bse bsp true rs ws
 asked rows tk W steps lk la lv ls ld ybk ybst ybse ybsp)) := by kernel_rfl
theorem xs_c1_ok (I : XM → Prop) (hW : W.length = 34) (hst : ∀ r : Int,0 ≤ r → r < 3 → 0 ≤ at0 W (2 + r) ∧ at0 W (2 + r) < 1099511627776) (hws : 0 < ws.length) (hw9 : ws.length ≤ 9) (hi : i < rs.length) (hrr : ∀ w ∈ rs,0 ≤ w.pl ∧ w.pl < 3) (hrs : rs.length ≤ 9) : Paid (vcX (xStepD stepX I 62) ⟨code,th,c,1,4,8,i,at_,row,seen,val,value,cause,stamp,made,1,9,bse,bsp,true,rs,ws,asked,rows,tk,W,steps,lk,la,lv,ls,ld,ybk,ybst,ybse,ybsp⟩ (hpF o 0 60)) := by
 have ha : 0 ≤ (at3 rs (i : Int)).pl ∧ (at3 rs (i : Int)).pl < 3 := by rw [at3_get hi]; exact hrr _ (List.getElem_mem _)
 have hb := hst _ ha.1 ha.2
 refine ⟨?_⟩
 rw [xs_c1]
 dsimp only
 refine ⟨rfl, ?_, ?_⟩
 ·intro h1
  exact absurd (of_decide_eq_true h1) (by rw [hW]; decide)
 ·intro h2
  refine ⟨⟨(show (0 : Int) ≤ (i : Int) by omega),(show (i : Int) < (rs.length : Int) by omega)⟩,⟨rfl,ha.1,ha.2⟩,(bad34 hW (show 0 ≤ 2 + (at3 (Rs.mk (32 : Int) rs).ls (↑i : Int)).pl by have := ha; (show _); first | exact Int.add_nonneg (by decide) ha.1 | exact (show 2 + (at3 rs (i : Int)).pl < 34 by omega)) (show (2 : Int) + (at3 (Rs.mk (32 : Int) rs).ls (↑i : Int)).pl < 34 by have := ha; (show _); first | exact Int.add_nonneg (by decide) ha.1 | exact (show 2 + (at3 rs (i : Int)).pl < 34 by omega))), ?_, ?_,hb, ?_, ?_⟩
  ·exact ⟨(by have := ha; (show _); first | exact Int.add_nonneg (by decide) ha.1 | exact (show 2 + (at3 rs (i : Int)).pl < 34 by omega)),(by rw [hW]; have := ha; (show _); first | exact Int.add_nonneg (by decide) ha.1 | exact (show 2 + (at3 rs (i : Int)).pl < 34 by omega))⟩
  ·exact ⟨(by have := ha; (show _); first | exact Int.add_nonneg (by decide) ha.1 | exact (show 2 + (at3 rs (i : Int)).pl < 34 by omega)),(by rw [hW]; have := ha; (show _); first | exact Int.add_nonneg (by decide) ha.1 | exact (show 2 + (at3 rs (i : Int)).pl < 34 by omega))⟩
  ·intro h3
   try dsimp only at h3
   have h3g := of_decide_eq_true h3
   replace h3 : geB (at0 W ((2 : Int) + (at3 rs (i : Int)).pl) % 16 - 1) ((0 : Int)) = true := h3
   refine ⟨?_, ?_⟩
   ·intro h4
    try dsimp only at h4
    refine ⟨?_, ?_⟩
    ·intro h5
     have h5g := of_decide_eq_true h5
     replace h5 : ltB ((0 : Int)) ((tk.length : Int)) = true := h5
     first | exact deadL | exact lfB rfl (nf2 8 rfl) | exact deadS
    ·intro h6
     have h6g := of_decide_eq_false h6
     replace h6 : ltB ((0 : Int)) ((tk.length : Int)) = false := h6
     first | exact deadL | exact lfB rfl (nf2 8 rfl) | exact deadS
   ·intro h7
    try dsimp only at h7
    refine ⟨hb, ?_, ?_⟩
    ·intro h8
     try dsimp only at h8
     have h8g := of_decide_eq_true h8
     replace h8 : gtB (at0 W ((2 : Int) + (at3 rs (i : Int)).pl) / 16) (stamp) = true := h8
     refine ⟨?_, ?_⟩
     ·intro h9
      have h9g := of_decide_eq_true h9
      replace h9 : ltB ((0 : Int)) ((tk.length : Int)) = true := h9
      first | exact deadL | exact lfB rfl (nf2 8 rfl) | exact deadS
     ·intro h10
      have h10g := of_decide_eq_false h10
      replace h10 : ltB ((0 : Int)) ((tk.length : Int)) = false := h10
      first | exact deadL | exact lfB rfl (nf2 8 rfl) | exact deadS
    ·intro h11
     try dsimp only at h11
     have h11g := of_decide_eq_false h11
     replace h11 : gtB (at0 W ((2 : Int) + (at3 rs (i : Int)).pl) / 16) (stamp) = false := h11
     refine ⟨?_, ?_⟩
     ·intro h12
      rw [wN (show i < 100000000 by omega)] at h12
      have h12g := of_decide_eq_true h12
      replace h12 : ltB (((i + 1 : Nat) : Int)) ((rs.length : Int)) = true := h12
      refine ⟨?_, ?_⟩
      ·intro h13
       simp only [Bool.not_eq_true',Bool.not_eq_false'] at h13
       first | exact deadL | exact lfB (wN (by omega)) (nf2 8 rfl) | exact deadS
      ·intro h14
       simp only [Bool.not_eq_true',Bool.not_eq_false'] at h14
       refine ⟨?_, ?_⟩
       ·intro h15
        have h15g := of_decide_eq_true h15
        replace h15 : ltB ((0 : Int)) ((ws.length : Int)) = true := h15
        first | exact deadL | exact lfB rfl (nf2 8 rfl) | exact deadS
       ·intro h16
        have h16g := of_decide_eq_false h16
        replace h16 : ltB ((0 : Int)) ((ws.length : Int)) = false := h16
        refine ⟨?_, ?_⟩
        ·intro h17
         have h17g := of_decide_eq_true h17
         replace h17 : geB ((0 : Int)) ((rows.length : Int)) = true := h17
         first | exact deadL | exact lfB rfl (nf2 8 rfl) | exact deadS
        ·intro h18
         have h18g := of_decide_eq_false h18
         replace h18 : geB ((0 : Int)) ((rows.length : Int)) = false := h18
         first | exact deadL | exact lfB rfl (nf2 8 rfl) | exact deadS
     ·intro h19
      rw [wN (show i < 100000000 by omega)] at h19
      have h19g := of_decide_eq_false h19
      replace h19 : ltB (((i + 1 : Nat) : Int)) ((rs.length : Int)) = false := h19
      refine ⟨?_, ?_⟩
      ·intro h20
       have h20g := of_decide_eq_true h20
       replace h20 : ltB ((0 : Int)) ((ws.length : Int)) = true := h20
       first | exact deadL | exact lfB rfl (nf2 8 rfl) | exact deadS
      ·intro h21
       have h21g := of_decide_eq_false h21
       replace h21 : ltB ((0 : Int)) ((ws.length : Int)) = false := h21
       refine ⟨?_, ?_⟩
       ·intro h22
        have h22g := of_decide_eq_true h22
        replace h22 : geB ((0 : Int)) ((rows.length : Int)) = true := h22
        first | exact deadL | exact lfB rfl (nf2 8 rfl) | exact deadS
       ·intro h23
        have h23g := of_decide_eq_false h23
        replace h23 : geB ((0 : Int)) ((rows.length : Int)) = false := h23
        first | exact deadL | exact lfB rfl (nf2 8 rfl) | exact deadS
  ·intro h24
   try dsimp only at h24
   have h24g := of_decide_eq_false h24
   replace h24 : geB (at0 W ((2 : Int) + (at3 rs (i : Int)).pl) % 16 - 1) ((0 : Int)) = false := h24
   refine ⟨hb, ?_, ?_⟩
   ·intro h25
    try dsimp only at h25
    have h25g := of_decide_eq_true h25
    replace h25 : gtB (at0 W ((2 : Int) + (at3 rs (i : Int)).pl) / 16) (stamp) = true := h25
    refine ⟨?_, ?_⟩
    ·intro h26
     have h26g := of_decide_eq_true h26
     replace h26 : ltB ((0 : Int)) ((tk.length : Int)) = true := h26
     first | exact deadL | exact lfB rfl (nf2 8 rfl) | exact deadS
    ·intro h27
     have h27g := of_decide_eq_false h27
     replace h27 : ltB ((0 : Int)) ((tk.length : Int)) = false := h27
     first | exact deadL | exact lfB rfl (nf2 8 rfl) | exact deadS
   ·intro h28
    try dsimp only at h28
    have h28g := of_decide_eq_false h28
    replace h28 : gtB (at0 W ((2 : Int) + (at3 rs (i : Int)).pl) / 16) (stamp) = false := h28
    refine ⟨?_, ?_⟩
    ·intro h29
     rw [wN (show i < 100000000 by omega)] at h29
     have h29g := of_decide_eq_true h29
     replace h29 : ltB (((i + 1 : Nat) : Int)) ((rs.length : Int)) = true := h29
     refine ⟨?_, ?_⟩
     ·intro h30
      simp only [Bool.not_eq_true',Bool.not_eq_false'] at h30
      first | exact deadL | exact lfB (wN (by omega)) (nf2 8 rfl) | exact deadS
     ·intro h31
      simp only [Bool.not_eq_true',Bool.not_eq_false'] at h31
      refine ⟨?_, ?_⟩
      ·intro h32
       have h32g := of_decide_eq_true h32
       replace h32 : ltB ((0 : Int)) ((ws.length : Int)) = true := h32
       first | exact deadL | exact lfB rfl (nf2 8 rfl) | exact deadS
      ·intro h33
       have h33g := of_decide_eq_false h33
       replace h33 : ltB ((0 : Int)) ((ws.length : Int)) = false := h33
       refine ⟨?_, ?_⟩
       ·intro h34
        have h34g := of_decide_eq_true h34
        replace h34 : geB ((0 : Int)) ((rows.length : Int)) = true := h34
        first | exact deadL | exact lfB rfl (nf2 8 rfl) | exact deadS
       ·intro h35
        have h35g := of_decide_eq_false h35
        replace h35 : geB ((0 : Int)) ((rows.length : Int)) = false := h35
        first | exact deadL | exact lfB rfl (nf2 8 rfl) | exact deadS
    ·intro h36
     rw [wN (show i < 100000000 by omega)] at h36
     have h36g := of_decide_eq_false h36
     replace h36 : ltB (((i + 1 : Nat) : Int)) ((rs.length : Int)) = false := h36
     refine ⟨?_, ?_⟩
     ·intro h37
      have h37g := of_decide_eq_true h37
      replace h37 : ltB ((0 : Int)) ((ws.length : Int)) = true := h37
      first | exact deadL | exact lfB rfl (nf2 8 rfl) | exact deadS
     ·intro h38
      have h38g := of_decide_eq_false h38
      replace h38 : ltB ((0 : Int)) ((ws.length : Int)) = false := h38
      refine ⟨?_, ?_⟩
      ·intro h39
       have h39g := of_decide_eq_true h39
       replace h39 : geB ((0 : Int)) ((rows.length : Int)) = true := h39
       first | exact deadL | exact lfB rfl (nf2 8 rfl) | exact deadS
      ·intro h40
       have h40g := of_decide_eq_false h40
       replace h40 : geB ((0 : Int)) ((rows.length : Int)) = false := h40
       first | exact deadL | exact lfB rfl (nf2 8 rfl) | exact deadS
theorem xs_c2 (st : XM → XM) (I : XM → Prop) : Go.Sy.Tree.holds (vcX (xStepD st I 62) ⟨code,th,c,1,4,8,i,at_,row,seen,val,value,cause,stamp,made,2,9,bse,bsp,true,rs,ws,asked,rows,tk,W,steps,lk,
 la,lv,ls,ld,ybk,ybst,ybse,ybsp⟩ (hpF o 0 60)) = ( (fun (u0 : XM) => sizeD.pre (mp1,()) ∧ (decide ((↑W.length : Int) < 34) = true → Lf (qN st u0) (dsF o 59 51) 1 th c (1 : Int) 4 8 (↑i :
 Int) at_ row seen val value cause stamp made (2 : Int) 9 bse bsp true rs ws asked rows tk W steps lk la lv ls ld) ∧ (decide ((↑W.length : Int) < 34) = false → atD.pre (Rs.mk (32 : Int) rs,(↑i : Int),()) ∧
 stripeD.pre (mp1,(at3 (Rs.mk (32 : Int) rs).ls (↑i : Int)).pl,()) ∧ badD.pre (Mw.mk W,2 + (at3 (Rs.mk (32 : Int) rs).ls (↑i : Int)).pl,()) ∧ ((0 : Int) ≤ 2 + (at3 (Rs.mk (32 : Int) rs).ls (↑i : Int)).pl ∧ 2 + (at3 (Rs.mk (32 : Int) rs).ls (↑i : Int)).pl < (↑W.length : Int)) ∧ ((0 : Int) ≤ 2 + (at3 (Rs.mk (32 : Int) rs).ls (↑i : Int)).pl ∧ 2 + (at3 (Rs.mk (32 : Int) rs).ls (↑i : Int)).pl < (↑W.length : Int)) ∧
 holderD.pre (at0 W ((2 : Int) + (at3 (Rs.mk (32 : Int) rs).ls (↑i : Int)).pl),()) ∧ (decide (at0 W ((2 : Int) + (at3 (Rs.mk (32 : Int) rs).ls (↑i : Int)).pl) % 16 - 1 ≥ 0) = true → ((at0 W ((2 : Int) +
 (at3 (Rs.mk (32 : Int) rs).ls (↑i : Int)).pl) % 16 - 1 != th) = true → (decide ((0 : Int) < (↑tk.length : Int)) = true → Lf (qN st u0) (dsF o 59 51) 0 th c (3 : Int) 5 0 0 at_ row
 seen val value (1 : Int) stamp (0 : Int) 2 9 bse bsp true rs ws asked rows tk W (i64.wrap (steps + 1)) 1 ((2 : Int) + (at3 (Rs.mk (32 : Int) rs).ls (↑i : Int)).pl) (at0 W ((2 : Int) + (at3
 (Rs.mk (32 : Int) rs).ls (↑i : Int)).pl)) (at0 W ((2 : Int) + (at3 (Rs.mk (32 : Int) rs).ls (↑i : Int)).pl)) true) ∧ (decide ((0 : Int) < (↑tk.length : Int)) = false → Lf (qN st u0) (dsF o 59 51) 0 th c (3 : Int)
 5 0 0 at_ row seen val value (1 : Int) stamp (0 : Int) 2 9 bse bsp true rs ws asked rows tk W (i64.wrap (steps + 1)) 1 ((2 : Int) + (at3 (Rs.mk (32 : Int) rs).ls
 (↑i : Int)).pl) (at0 W ((2 : Int) + (at3 (Rs.mk (32 : Int) rs).ls (↑i : Int)).pl)) (at0 W ((2 : Int) + (at3 (Rs.mk (32 : Int) rs).ls (↑i : Int)).pl)) true)) ∧ ((at0 W ((2 : Int) + (at3 (Rs.mk (32 : Int) rs).ls (↑i :
 Int)).pl) % 16 - 1 != th) = false → versionD.pre (at0 W ((2 : Int) + (at3 (Rs.mk (32 : Int) rs).ls (↑i : Int)).pl),()) ∧ (decide (at0 W ((2 : Int) + (at3 (Rs.mk (32 : Int) rs).ls (↑i : Int)).pl) / 16 >
 stamp) = true → (decide ((0 : Int) < (↑tk.length : Int)) = true → Lf (qN st u0) (dsF o 59 51) 0 th c (3 : Int) 5 0 0 at_ row seen val value (2 : Int) stamp (0 : Int) 2 9
 bse bsp true rs ws asked rows tk W (i64.wrap (steps + 1)) 1 ((2 : Int) + (at3 (Rs.mk (32 : Int) rs).ls (↑i : Int)).pl) (at0 W ((2 : Int) + (at3 (Rs.mk (32 : Int) rs).ls (↑i : Int)).pl)) (at0 W ((2 : Int)
 + (at3 (Rs.mk (32 : Int) rs).ls (↑i : Int)).pl)) true) ∧ (decide ((0 : Int) < (↑tk.length : Int)) = false → Lf (qN st u0) (dsF o 59 51) 0 th c (3 : Int) 5 0 0 at_ row seen val value (2 :
 Int) stamp (0 : Int) 2 9 bse bsp true rs ws asked rows tk W (i64.wrap (steps + 1)) 1 ((2 : Int) + (at3 (Rs.mk (32 : Int) rs).ls (↑i : Int)).pl) (at0 W ((2 : Int) + (at3 (Rs.mk (32 : Int)
 rs).ls (↑i : Int)).pl)) (at0 W ((2 : Int) + (at3 (Rs.mk (32 : Int) rs).ls (↑i : Int)).pl)) true)) ∧ (decide (at0 W ((2 : Int) + (at3 (Rs.mk (32 : Int) rs).ls (↑i : Int)).pl) / 16 > stamp) = false → (decide
 (i64.wrap ((↑i : Int) + 1) < (↑rs.length : Int)) = true → Lf (qN st u0) (dsF o 59 51) 0 th c (1 : Int) 4 8 (i64.wrap ((↑i : Int) + 1)) at_ row seen val value cause stamp made (2 :
 Int) 9 bse bsp true rs ws asked rows tk W (i64.wrap (steps + 1)) 1 ((2 : Int) + (at3 (Rs.mk (32 : Int) rs).ls (↑i : Int)).pl) (at0 W ((2 : Int) + (at3 (Rs.mk (32 : Int) rs).ls (↑i : Int)).pl))
 (at0 W ((2 : Int) + (at3 (Rs.mk (32 : Int) rs).ls (↑i : Int)).pl)) true) ∧ (decide (i64.wrap ((↑i : Int) + 1) < (↑rs.length : Int)) = false → (decide ((0 : Int) < (↑ws.length : Int)) = true → Lf (qN st u0) (dsF o
 59 51) 0 th c (2 : Int) 4 9 0 at_ row seen val value cause stamp made (2 : Int) 9 bse bsp true rs ws asked rows tk W (i64.wrap (steps + 1)) 1 ((2 : Int) + (at3
 (Rs.mk (32 : Int) rs).ls (↑i : Int)).pl) (at0 W ((2 : Int) + (at3 (Rs.mk (32 : Int) rs).ls (↑i : Int)).pl)) (at0 W ((2 : Int) + (at3 (Rs.mk (32 : Int) rs).ls (↑i : Int)).pl)) true) ∧ (decide ((0 : Int) < (↑ws.length :
 Int)) = false → (decide ((0 : Int) ≥ (↑rows.length : Int)) = true → Lf (qN st u0) (dsF o 59 51) 0 th c (2 : Int) 4 11 0 at_ row seen val value cause stamp made (2 : Int) 9 bse bsp
 true rs ws asked rows tk W (i64.wrap (steps + 1)) 1 ((2 : Int) + (at3 (Rs.mk (32 : Int) rs).ls (↑i : Int)).pl) (at0 W ((2 : Int) + (at3 (Rs.mk (32 : Int) rs).ls (↑i : Int)).pl)) (at0 W ((2 : Int) + (at3
 (Rs.mk (32 : Int) rs).ls (↑i : Int)).pl)) true) ∧ (decide ((0 : Int) ≥ (↑rows.length : Int)) = false → Lf (qN st u0) (dsF o 59 51) 0 th c (2 : Int) 4 10 0 at_ row seen val value cause
 stamp made (2 : Int) 9 bse bsp true rs ws asked rows tk W (i64.wrap (steps + 1)) 1 ((2 : Int) + (at3 (Rs.mk (32 : Int) rs).ls (↑i : Int)).pl) (at0 W ((2 : Int) + (at3 (Rs.mk (32 : Int) rs).ls (↑i
 : Int)).pl)) (at0 W ((2 : Int) + (at3 (Rs.mk (32 : Int) rs).ls (↑i : Int)).pl)) true)))))) ∧ (decide (at0 W ((2 : Int) + (at3 (Rs.mk (32 : Int) rs).ls (↑i : Int)).pl) % 16 - 1 ≥ 0) = false → versionD.pre
 (at0 W ((2 : Int) + (at3 (Rs.mk (32 : Int) rs).ls (↑i : Int)).pl),()) ∧ (decide (at0 W ((2 : Int) + (at3 (Rs.mk (32 : Int) rs).ls (↑i : Int)).pl) / 16 > stamp) = true → (decide ((0 : Int) < (↑tk.length : Int)) =
 true → Lf (qN st u0) (dsF o 59 51) 0 th c (3 : Int) 5 0 0 at_ row seen val value (2 : Int) stamp (0 : Int) 2 9 bse bsp true rs ws asked rows tk W (i64.wrap (steps +
 1)) 1 ((2 : Int) + (at3 (Rs.mk (32 : Int) rs).ls (↑i : Int)).pl) (at0 W ((2 : Int) + (at3 (Rs.mk (32 : Int) rs).ls (↑i : Int)).pl)) (at0 W ((2 : Int) + (at3 (Rs.mk (32 : Int) rs).ls (↑i : Int)).pl)) true) ∧
 (decide ((0 : Int) < (↑tk.length : Int)) = false → Lf (qN st u0) (dsF o 59 51) 0 th c (3 : Int) 5 0 0 at_ row seen val value (2 : Int) stamp (0 : Int) 2 9 bse bsp true rs
 ws asked rows tk W (i64.wrap (steps + 1)) 1 ((2 : Int) + (at3 (Rs.mk (32 : Int) rs).ls (↑i : Int)).pl) (at0 W ((2 : Int) + (at3 (Rs.mk (32 : Int) rs).ls (↑i : Int)).pl)) (at0 W ((2 : Int) + (at3 (Rs.mk
 32 rs).ls (↑i : Int)).pl)) true)) ∧ (decide (at0 W ((2 : Int) + (at3 (Rs.mk (32 : Int) rs).ls (↑i : Int)).pl) / 16 > stamp) = false → (decide (i64.wrap ((↑i : Int) + 1) < (↑rs.length : Int)) =
 true → Lf (qN st u0) (dsF o 59 51) 0 th c (1 : Int) 4 8 (i64.wrap ((↑i : Int) + 1)) at_ row seen val value cause stamp made (2 : Int) 9 bse bsp true rs ws asked rows tk W
 (i64.wrap (steps + 1)) 1 ((2 : Int) + (at3 (Rs.mk (32 : Int) rs).ls (↑i : Int)).pl) (at0 W ((2 : Int) + (at3 (Rs.mk (32 : Int) rs).ls (↑i : Int)).pl)) (at0 W ((2 : Int) + (at3 (Rs.mk (32 : Int) rs).ls (↑i
 : Int)).pl)) true) ∧ (decide (i64.wrap ((↑i : Int) + 1) < (↑rs.length : Int)) = false → (decide ((0 : Int) < (↑ws.length : Int)) = true → Lf (qN st u0) (dsF o 59 51) 0 th c (2 : Int) 4 9
 0 at_ row seen val value cause stamp made (2 : Int) 9 bse bsp true rs ws asked rows tk W (i64.wrap (steps + 1)) 1 ((2 : Int) + (at3 (Rs.mk (32 : Int) rs).ls (↑i : Int)).pl) (at0 W ((2 :
 Int) + (at3 (Rs.mk (32 : Int) rs).ls (↑i : Int)).pl)) (at0 W ((2 : Int) + (at3 (Rs.mk (32 : Int) rs).ls (↑i : Int)).pl)) true) ∧ (decide ((0 : Int) < (↑ws.length : Int)) = false → (decide ((0 : Int) ≥ (↑rows.length :
 Int)) = true → Lf (qN st u0) (dsF o 59 51) 0 th c (2 : Int) 4 11 0 at_ row seen val value cause stamp made (2 : Int) 9 bse bsp true rs ws asked rows tk W (i64.wrap (steps +
 1)) 1 ((2 : Int) + (at3 (Rs.mk (32 : Int) rs).ls (↑i : Int)).pl) (at0 W ((2 : Int) + (at3 (Rs.mk (32 : Int) rs).ls (↑i : Int)).pl)) (at0 W ((2 : Int) + (at3 (Rs.mk (32 : Int) rs).ls (↑i : Int)).pl)) true) ∧
 (decide ((0 : Int) ≥ (↑rows.length : Int)) = false → Lf (qN st u0) (dsF o 59 51) 0 th c (2 : Int) 4 10 0 at_ row seen val value cause stamp made (2 : Int) 9 bse bsp true rs ws
 asked rows tk W (i64.wrap (steps + 1)) 1 ((2 : Int) + (at3 (Rs.mk (32 : Int) rs).ls (↑i : Int)).pl) (at0 W ((2 : Int) + (at3 (Rs.mk (32 : Int) rs).ls (↑i : Int)).pl)) (at0 W ((2 : Int) + (at3 (Rs.mk (32 :
 Int) rs).ls (↑i : Int)).pl)) true))))))) (XM.mk code th c (1 : Int) 4 8 i at_ row seen val value cause stamp made (2 : Int) 9 bse bsp true rs ws asked rows tk W steps lk la lv ls ld ybk ybst ybse
 ybsp)) := by kernel_rfl
theorem xs_c2_ok (I : XM → Prop) (hW : W.length = 34) (hst : ∀ r : Int,0 ≤ r → r < 3 → 0 ≤ at0 W (2 + r) ∧ at0 W (2 + r) < 1099511627776) (hws : 0 < ws.length) (hw9 : ws.length ≤ 9) (hi : i < rs.length) (hrr : ∀ w ∈ rs,0 ≤ w.pl ∧ w.pl < 3) (hrs : rs.length ≤ 9) : Paid (vcX (xStepD stepX I 62) ⟨code,th,c,1,4,8,i,at_,row,seen,val,value,cause,stamp,made,2,9,bse,bsp,true,rs,ws,asked,rows,tk,W,steps,lk,la,lv,ls,ld,ybk,ybst,ybse,ybsp⟩ (hpF o 0 60)) := by
 have ha : 0 ≤ (at3 rs (i : Int)).pl ∧ (at3 rs (i : Int)).pl < 3 := by rw [at3_get hi]; exact hrr _ (List.getElem_mem _)
 have hb := hst _ ha.1 ha.2
 refine ⟨?_⟩
 rw [xs_c2]
 dsimp only
 refine ⟨rfl, ?_, ?_⟩
 ·intro h1
  exact absurd (of_decide_eq_true h1) (by rw [hW]; decide)
 ·intro h2
  refine ⟨⟨(show (0 : Int) ≤ (i : Int) by omega),(show (i : Int) < (rs.length : Int) by omega)⟩,⟨rfl,ha.1,ha.2⟩,(bad34 hW (show 0 ≤ 2 + (at3 (Rs.mk (32 : Int) rs).ls (↑i : Int)).pl by have := ha; (show _); first | exact Int.add_nonneg (by decide) ha.1 | exact (show 2 + (at3 rs (i : Int)).pl < 34 by omega)) (show (2 : Int) + (at3 (Rs.mk (32 : Int) rs).ls (↑i : Int)).pl < 34 by have := ha; (show _); first | exact Int.add_nonneg (by decide) ha.1 | exact (show 2 + (at3 rs (i : Int)).pl < 34 by omega))), ?_, ?_,hb, ?_, ?_⟩
  ·exact ⟨(by have := ha; (show _); first | exact Int.add_nonneg (by decide) ha.1 | exact (show 2 + (at3 rs (i : Int)).pl < 34 by omega)),(by rw [hW]; have := ha; (show _); first | exact Int.add_nonneg (by decide) ha.1 | exact (show 2 + (at3 rs (i : Int)).pl < 34 by omega))⟩
  ·exact ⟨(by have := ha; (show _); first | exact Int.add_nonneg (by decide) ha.1 | exact (show 2 + (at3 rs (i : Int)).pl < 34 by omega)),(by rw [hW]; have := ha; (show _); first | exact Int.add_nonneg (by decide) ha.1 | exact (show 2 + (at3 rs (i : Int)).pl < 34 by omega))⟩
  ·intro h3
   try dsimp only at h3
   have h3g := of_decide_eq_true h3
   replace h3 : geB (at0 W ((2 : Int) + (at3 rs (i : Int)).pl) % 16 - 1) ((0 : Int)) = true := h3
   refine ⟨?_, ?_⟩
   ·intro h4
    try dsimp only at h4
    refine ⟨?_, ?_⟩
    ·intro h5
     have h5g := of_decide_eq_true h5
     replace h5 : ltB ((0 : Int)) ((tk.length : Int)) = true := h5
     first | exact deadL | exact lfB rfl (nf2 8 rfl) | exact deadS
    ·intro h6
     have h6g := of_decide_eq_false h6
     replace h6 : ltB ((0 : Int)) ((tk.length : Int)) = false := h6
     first | exact deadL | exact lfB rfl (nf2 8 rfl) | exact deadS
   ·intro h7
    try dsimp only at h7
    refine ⟨hb, ?_, ?_⟩
    ·intro h8
     try dsimp only at h8
     have h8g := of_decide_eq_true h8
     replace h8 : gtB (at0 W ((2 : Int) + (at3 rs (i : Int)).pl) / 16) (stamp) = true := h8
     refine ⟨?_, ?_⟩
     ·intro h9
      have h9g := of_decide_eq_true h9
      replace h9 : ltB ((0 : Int)) ((tk.length : Int)) = true := h9
      first | exact deadL | exact lfB rfl (nf2 8 rfl) | exact deadS
     ·intro h10
      have h10g := of_decide_eq_false h10
      replace h10 : ltB ((0 : Int)) ((tk.length : Int)) = false := h10
      first | exact deadL | exact lfB rfl (nf2 8 rfl) | exact deadS
    ·intro h11
     try dsimp only at h11
     have h11g := of_decide_eq_false h11
     replace h11 : gtB (at0 W ((2 : Int) + (at3 rs (i : Int)).pl) / 16) (stamp) = false := h11
     refine ⟨?_, ?_⟩
     ·intro h12
      rw [wN (show i < 100000000 by omega)] at h12
      have h12g := of_decide_eq_true h12
      replace h12 : ltB (((i + 1 : Nat) : Int)) ((rs.length : Int)) = true := h12
      first | exact deadL | exact lfB (wN (by omega)) (nf2 8 rfl) | exact deadS
     ·intro h13
      rw [wN (show i < 100000000 by omega)] at h13
      have h13g := of_decide_eq_false h13
      replace h13 : ltB (((i + 1 : Nat) : Int)) ((rs.length : Int)) = false := h13
      refine ⟨?_, ?_⟩
      ·intro h14
       have h14g := of_decide_eq_true h14
       replace h14 : ltB ((0 : Int)) ((ws.length : Int)) = true := h14
       first | exact deadL | exact lfB rfl (nf2 8 rfl) | exact deadS
      ·intro h15
       have h15g := of_decide_eq_false h15
       replace h15 : ltB ((0 : Int)) ((ws.length : Int)) = false := h15
       refine ⟨?_, ?_⟩
       ·intro h16
        have h16g := of_decide_eq_true h16
        replace h16 : geB ((0 : Int)) ((rows.length : Int)) = true := h16
        first | exact deadL | exact lfB rfl (nf2 8 rfl) | exact deadS
       ·intro h17
        have h17g := of_decide_eq_false h17
        replace h17 : geB ((0 : Int)) ((rows.length : Int)) = false := h17
        first | exact deadL | exact lfB rfl (nf2 8 rfl) | exact deadS
  ·intro h18
   try dsimp only at h18
   have h18g := of_decide_eq_false h18
   replace h18 : geB (at0 W ((2 : Int) + (at3 rs (i : Int)).pl) % 16 - 1) ((0 : Int)) = false := h18
   refine ⟨hb, ?_, ?_⟩
   ·intro h19
    try dsimp only at h19
    have h19g := of_decide_eq_true h19
    replace h19 : gtB (at0 W ((2 : Int) + (at3 rs (i : Int)).pl) / 16) (stamp) = true := h19
    refine ⟨?_, ?_⟩
    ·intro h20
     have h20g := of_decide_eq_true h20
     replace h20 : ltB ((0 : Int)) ((tk.length : Int)) = true := h20
     first | exact deadL | exact lfB rfl (nf2 8 rfl) | exact deadS
    ·intro h21
     have h21g := of_decide_eq_false h21
     replace h21 : ltB ((0 : Int)) ((tk.length : Int)) = false := h21
     first | exact deadL | exact lfB rfl (nf2 8 rfl) | exact deadS
   ·intro h22
    try dsimp only at h22
    have h22g := of_decide_eq_false h22
    replace h22 : gtB (at0 W ((2 : Int) + (at3 rs (i : Int)).pl) / 16) (stamp) = false := h22
    refine ⟨?_, ?_⟩
    ·intro h23
     rw [wN (show i < 100000000 by omega)] at h23
     have h23g := of_decide_eq_true h23
     replace h23 : ltB (((i + 1 : Nat) : Int)) ((rs.length : Int)) = true := h23
     first | exact deadL | exact lfB (wN (by omega)) (nf2 8 rfl) | exact deadS
    ·intro h24
     rw [wN (show i < 100000000 by omega)] at h24
     have h24g := of_decide_eq_false h24
     replace h24 : ltB (((i + 1 : Nat) : Int)) ((rs.length : Int)) = false := h24
     refine ⟨?_, ?_⟩
     ·intro h25
      have h25g := of_decide_eq_true h25
      replace h25 : ltB ((0 : Int)) ((ws.length : Int)) = true := h25
      first | exact deadL | exact lfB rfl (nf2 8 rfl) | exact deadS
     ·intro h26
      have h26g := of_decide_eq_false h26
      replace h26 : ltB ((0 : Int)) ((ws.length : Int)) = false := h26
      refine ⟨?_, ?_⟩
      ·intro h27
       have h27g := of_decide_eq_true h27
       replace h27 : geB ((0 : Int)) ((rows.length : Int)) = true := h27
       first | exact deadL | exact lfB rfl (nf2 8 rfl) | exact deadS
      ·intro h28
       have h28g := of_decide_eq_false h28
       replace h28 : geB ((0 : Int)) ((rows.length : Int)) = false := h28
       first | exact deadL | exact lfB rfl (nf2 8 rfl) | exact deadS
end Go.Proofs.Ytmjjljngaefpaaa

/- Tl2Two: a step of the program's attempt, from each of its states. -/
import Derived.Test.YtmjjljngaefpaaaGreatXl
namespace Go.Proofs.YtmjjljngaefpaaaGreat
open Go.RowKit Go.Am Go.Sy
open Go.IntKind (i64 u64)
set_option linter.unusedVariables false
set_option linter.unusedSimpArgs false
variable (code th c part : Int) (i : Nat) (at_ row seen val value cause stamp made bk bst bse bsp : Int) (ph ld : Bool) (rs ws tk : List Wo) (rows W : List Int) (asked steps lk la lv ls ybk ybst ybse ybsp : Int)
variable (o : Nat → Option Ob)
theorem xs_m (st : XM → XM) (I : XM → Prop) : Go.Sy.Tree.holds (vcX (xStepD st I 36) ⟨code,th,c,1,4,4,i,at_,row,seen,val,value,cause,stamp,made,bk,bst,bse,bsp,false,rs,ws,asked,rows,tk,W,steps,
 lk,la,lv,ls,ld,ybk,ybst,ybse,ybsp⟩ (hpF o 0 34)) = ( (fun (u0 : XM) => sizeD.pre (mp1,()) ∧ (decide ((↑W.length : Int) < 34) = true → Lf (qN st u0) (dsF o 33 25) 1 th c (1 : Int) 4 4 (↑i
 : Int) at_ row seen val value cause stamp made bk bst bse bsp false rs ws asked rows tk W steps lk la lv ls ld) ∧ (decide ((↑W.length : Int) < 34) = false → threadD.pre (mp1,th,(0 : Int),()) ∧ badD.pre (Mw.mk W,11 + 2 * th,()) ∧ ((0 : Int) ≤ 11 + 2 * th ∧ 11 + 2 * th < (↑W.length : Int)) ∧ ((0 : Int) ≤ 11 + 2 * th ∧ 11 + 2 * th < (↑W.length : Int)) ∧ ((0 : Int) ≤ 11 + 2 * th ∧ 11 + 2 * th < (↑W.length
 : Int)) ∧ ((0 : Int) ≤ 11 + 2 * th ∧ 11 + 2 * th < (↑W.length : Int)) ∧ (decide ((↑ws.length : Int) > 0) = true → ws.length * 16 ≤ 140737488355328 ∧ placesD.pre (ws,()) ∧ rowsD.pre (mp1,List.map (fun (x : Wo)
 => x.pl) ws,()) ∧ ((c == 1) = true → (decide ((↑i : Int) ≥ (↑(rowsT (List.map (fun (x : Wo) => x.pl) ws)).length : Int)) = true → Lf (qF st u0) (dsF o 33 25) 0 th c (1 : Int) 4 7 (↑i : Int) at_
 row seen val value cause stamp made (1 : Int) 0 0 0 true rs ws asked (rowsT (List.map (fun (x : Wo) => x.pl) ws)) tk (W.set ((11 : Int) + 2 * th).toNat (2 : Int)) (i64.wrap (steps + 1)) 2 ((11 : Int) + 2 * th) 2 (at0 W ((11 : Int) + 2 * th)) true) ∧ (decide ((↑i : Int) ≥ (↑(rowsT (List.map (fun (x : Wo) => x.pl) ws)).length : Int)) = false → Lf (qF st u0) (dsF o 33 25) 0 th c (1 :
 Int) 4 5 (↑i : Int) at_ row seen val value cause stamp made (1 : Int) 0 0 0 true rs ws asked (rowsT (List.map (fun (x : Wo) => x.pl) ws)) tk (W.set ((11 : Int) + 2 * th).toNat (2 :
 Int)) (i64.wrap (steps + 1)) 2 ((11 : Int) + 2 * th) 2 (at0 W ((11 : Int) + 2 * th)) true)) ∧ ((c == 1) = false → ((c == 2) = true → (decide ((↑i : Int) ≥ (↑(rowsT (List.map (fun (x : Wo) => x.pl)
 ws)).length : Int)) = true → Lf (qF st u0) (dsF o 33 25) 0 th c (1 : Int) 4 7 (↑i : Int) at_ row seen val value cause stamp made (2 : Int) 0 0 0 true rs ws asked (rowsT
 (List.map (fun (x : Wo) => x.pl) ws)) tk (W.set ((11 : Int) + 2 * th).toNat (2 : Int)) (i64.wrap (steps + 1)) 2 ((11 : Int) + 2 * th) 2 (at0 W ((11 : Int) + 2 * th)) true) ∧ (decide ((↑i : Int) ≥
 (↑(rowsT (List.map (fun (x : Wo) => x.pl) ws)).length : Int)) = false → Lf (qF st u0) (dsF o 33 25) 0 th c (1 : Int) 4 5 (↑i : Int) at_ row seen val value cause stamp made (2 : Int) 0 0 0 true rs ws asked (rowsT (List.map (fun (x : Wo) => x.pl) ws)) tk (W.set ((11 : Int) + 2 * th).toNat (2 : Int)) (i64.wrap (steps + 1)) 2 ((11 : Int) + 2 * th) 2 (at0 W ((11 : Int) +
 2 * th)) true)) ∧ ((c == 2) = false → (decide ((↑i : Int) ≥ (↑(rowsT (List.map (fun (x : Wo) => x.pl) ws)).length : Int)) = true → Lf (qF st u0) (dsF o 33 25) 0 th c (1 : Int) 4 7 (↑i : Int) at_
 row seen val value cause stamp made (0 : Int) 0 0 0 true rs ws asked (rowsT (List.map (fun (x : Wo) => x.pl) ws)) tk (W.set ((11 : Int) + 2 * th).toNat (2 : Int)) (i64.wrap (steps + 1)) 2 ((11 : Int) + 2 * th) 2 (at0 W ((11 : Int) + 2 * th)) true) ∧ (decide ((↑i : Int) ≥ (↑(rowsT (List.map (fun (x : Wo) => x.pl) ws)).length : Int)) = false → Lf (qF st u0) (dsF o 33 25) 0 th c (1 :
 Int) 4 5 (↑i : Int) at_ row seen val value cause stamp made (0 : Int) 0 0 0 true rs ws asked (rowsT (List.map (fun (x : Wo) => x.pl) ws)) tk (W.set ((11 : Int) + 2 * th).toNat (2 :
 Int)) (i64.wrap (steps + 1)) 2 ((11 : Int) + 2 * th) 2 (at0 W ((11 : Int) + 2 * th)) true)))) ∧ (decide ((↑ws.length : Int) > 0) = false → (decide ((↑i : Int) < 0) = true → Lf (qN st u0) (dsF o 33
 25) 0 th c (1 : Int) 4 3 (↑i : Int) at_ row seen val value cause stamp made bk bst bse bsp true rs ws asked rows tk (W.set ((11 : Int) + 2 * th).toNat (2 : Int)) (i64.wrap (steps + 1)) 2 ((11 : Int) + 2 * th) 2 (at0 W ((11 : Int) + 2 * th)) true) ∧ (decide ((↑i : Int) < 0) = false → (decide ((0 : Int) < (↑ws.length : Int)) = true → Lf (qN st u0) (dsF o 33 25) 0 th c (2 : Int) 4 9 0 at_ row seen val value cause stamp made bk bst bse bsp true rs ws asked rows tk (W.set ((11 : Int) + 2 * th).toNat (2 : Int)) (i64.wrap (steps + 1)) 2 ((11 : Int) + 2 * th) 2 (at0 W ((11 : Int) + 2 * th)) true) ∧ (decide ((0 : Int) < (↑ws.length : Int)) = false → (decide ((0 : Int) ≥ (↑rows.length : Int)) = true → Lf (qN st u0) (dsF o 33 25) 0 th c (2 : Int) 4 11
 0 at_ row seen val value cause stamp made bk bst bse bsp true rs ws asked rows tk (W.set ((11 : Int) + 2 * th).toNat (2 : Int)) (i64.wrap (steps + 1)) 2 ((11 : Int) + 2 * th) 2 (at0 W ((11
 : Int) + 2 * th)) true) ∧ (decide ((0 : Int) ≥ (↑rows.length : Int)) = false → Lf (qN st u0) (dsF o 33 25) 0 th c (2 : Int) 4 10 0 at_ row seen val value cause stamp made bk bst bse bsp
 true rs ws asked rows tk (W.set ((11 : Int) + 2 * th).toNat (2 : Int)) (i64.wrap (steps + 1)) 2 ((11 : Int) + 2 * th) 2 (at0 W ((11 : Int) + 2 * th)) true)))))) (XM.mk code th c (1 : Int) 4 4 i at_ row seen val value cause stamp made bk bst bse bsp false rs ws asked rows tk W steps lk la lv ls ld ybk ybst ybse ybsp)) := by kernel_rfl
theorem xs_m_ok (I : XM → Prop) (hW : W.length = 34) (hth : th = 0 ∨ th = 2) (hc : c = 1 ∨ c = 2) (hws : ws.length ≤ 9) (hwd : ∀ w ∈ ws,isData w.pl) (hi0 : i = 0) (hro : ws.length = 0 → rows = []) (hrp : 0 < ws.length → 0 < (rowsT (ws.map (·.pl))).length) : Paid (vcX (xStepD stepX I 36) ⟨code,th,c,1,4,4,i,at_,row,seen,val,value,cause,stamp,made,bk,bst,bse,bsp,false,rs,ws,asked,rows,tk,W,steps,lk,la,lv,ls,ld,ybk,ybst,ybse,ybsp⟩ (hpF o 0 34)) := by
 have hrn : ws.length = 0 → rows.length = 0 := fun h => by rw [hro h]; rfl
 refine ⟨?_⟩
 rw [xs_m]
 dsimp only
 refine ⟨rfl, ?_, ?_⟩
 ·intro h1
  exact absurd (qb h1) (by rw [hW]; decide)
 ·intro h2
  refine ⟨⟨rfl,(show 0 ≤ th by omega),(show th < 3 by omega),rfl⟩,(bad34 hW (show 0 ≤ 11 + 2 * th by omega) (show (11 : Int) + 2 * th < 34 by omega)), ?_, ?_, ?_, ?_, ?_, ?_⟩
  ·exact ⟨(by omega),(by rw [hW]; omega)⟩
  ·exact ⟨(by omega),(by rw [hW]; omega)⟩
  ·exact ⟨(by omega),(by rw [hW]; omega)⟩
  ·exact ⟨(by omega),(by rw [hW]; omega)⟩
  ·intro h3
   have h3g := qb h3
   have hws1 : 0 < ws.length := by omega
   have hrp1 := hrp hws1
   replace h3 : gtB ((ws.length : Int)) ((0 : Int)) = true := h3
   refine ⟨(by omega),(show ws.length ≤ 1000 by omega),⟨rfl,(show (List.map (fun (x : Wo) => x.pl) ws).length ≤ 1000 by rw [qh]; omega),(fun x hx => by obtain ⟨q,hq,rfl⟩ := List.mem_map.1 hx; exact hwd q hq)⟩, ?_, ?_⟩
   ·intro h4
    have h4g := eq_of_beq h4
    refine ⟨?_, ?_⟩
    ·intro h5
     have h5g := qb h5
     replace h5 : geB ((i : Int)) (((rowsT (List.map (fun (x : Wo) => x.pl) ws)).length : Int)) = true := h5
     first | exact deadL | exact lfB rfl ⟨rfl,rfl,rfl,(fun e => by have e : ws = [] := e; rw [e] at hws1; exact absurd hws1 (by decide))⟩ | exact deadS
    ·intro h6
     have h6g := qc h6
     replace h6 : geB ((i : Int)) (((rowsT (List.map (fun (x : Wo) => x.pl) ws)).length : Int)) = false := h6
     first | exact deadL | exact lfB rfl ⟨rfl,rfl,rfl,(fun e => by have e : ws = [] := e; rw [e] at hws1; exact absurd hws1 (by decide))⟩ | exact deadS
   ·intro h7
    have h7g := ne_of_beq_false h7
    refine ⟨?_, ?_⟩
    ·intro h8
     have h8g := eq_of_beq h8
     refine ⟨?_, ?_⟩
     ·intro h9
      have h9g := qb h9
      replace h9 : geB ((i : Int)) (((rowsT (List.map (fun (x : Wo) => x.pl) ws)).length : Int)) = true := h9
      first | exact deadL | exact lfB rfl ⟨rfl,rfl,rfl,(fun e => by have e : ws = [] := e; rw [e] at hws1; exact absurd hws1 (by decide))⟩ | exact deadS
     ·intro h10
      have h10g := qc h10
      replace h10 : geB ((i : Int)) (((rowsT (List.map (fun (x : Wo) => x.pl) ws)).length : Int)) = false := h10
      first | exact deadL | exact lfB rfl ⟨rfl,rfl,rfl,(fun e => by have e : ws = [] := e; rw [e] at hws1; exact absurd hws1 (by decide))⟩ | exact deadS
    ·intro h11
     have h11g := ne_of_beq_false h11
     refine ⟨?_, ?_⟩
     ·intro h12
      have h12g := qb h12
      replace h12 : geB ((i : Int)) (((rowsT (List.map (fun (x : Wo) => x.pl) ws)).length : Int)) = true := h12
      first | exact deadL | exact lfB rfl ⟨rfl,rfl,rfl,(fun e => by have e : ws = [] := e; rw [e] at hws1; exact absurd hws1 (by decide))⟩ | exact deadS
     ·intro h13
      have h13g := qc h13
      replace h13 : geB ((i : Int)) (((rowsT (List.map (fun (x : Wo) => x.pl) ws)).length : Int)) = false := h13
      first | exact deadL | exact lfB rfl ⟨rfl,rfl,rfl,(fun e => by have e : ws = [] := e; rw [e] at hws1; exact absurd hws1 (by decide))⟩ | exact deadS
  ·intro h14
   have h14g := qc h14
   replace h14 : gtB ((ws.length : Int)) ((0 : Int)) = false := h14
   refine ⟨?_, ?_⟩
   ·intro h15
    have h15g := qb h15
    replace h15 : ltB ((i : Int)) ((0 : Int)) = true := h15
    first | exact deadL | exact lfB rfl ⟨rfl,(fun h => h.2.2 (show ws = [] from qu (by omega)))⟩ | exact deadS
   ·intro h16
    have h16g := qc h16
    replace h16 : ltB ((i : Int)) ((0 : Int)) = false := h16
    refine ⟨?_, ?_⟩
    ·intro h17
     have h17g := qb h17
     replace h17 : ltB ((0 : Int)) ((ws.length : Int)) = true := h17
     first | exact deadL | exact lfB rfl ⟨rfl,(fun h => h.2.2 (show ws = [] from qu (by omega)))⟩ | exact deadS
    ·intro h18
     have h18g := qc h18
     replace h18 : ltB ((0 : Int)) ((ws.length : Int)) = false := h18
     refine ⟨?_, ?_⟩
     ·intro h19
      have h19g := qb h19
      replace h19 : geB ((0 : Int)) ((rows.length : Int)) = true := h19
      first | exact deadL | exact lfB rfl ⟨rfl,(fun h => h.2.2 (show ws = [] from qu (by omega)))⟩ | exact deadS
     ·intro h20
      have h20g := qc h20
      replace h20 : geB ((0 : Int)) ((rows.length : Int)) = false := h20
      first | exact deadL | exact lfB rfl ⟨rfl,(fun h => h.2.2 (show ws = [] from qu (by omega)))⟩ | exact deadS
theorem xs_l (st : XM → XM) (I : XM → Prop) : Go.Sy.Tree.holds (vcX (xStepD st I 36) ⟨code,th,c,1,4,5,i,at_,row,seen,val,value,cause,stamp,made,bk,bst,bse,bsp,true,rs,ws,asked,rows,tk,W,steps,
 lk,la,lv,ls,ld,ybk,ybst,ybse,ybsp⟩ (hpF o 0 34)) = ( (fun (u0 : XM) => sizeD.pre (mp1,()) ∧ (decide ((↑W.length : Int) < 34) = true → Lf (qN st u0) (dsF o 33 25) 1 th c (1 : Int) 4 5 (↑i
 : Int) at_ row seen val value cause stamp made bk bst bse bsp true rs ws asked rows tk W steps lk la lv ls ld) ∧ (decide ((↑W.length : Int) < 34) = false → ((0 : Int) ≤ (↑i : Int) ∧ (↑i : Int) < (↑rows.length : Int)) ∧
 ((0 : Int) ≤ (↑i : Int) ∧ (↑i : Int) < (↑rows.length : Int)) ∧ stripeD.pre (mp1,at0 rows (↑i : Int),()) ∧ badD.pre (Mw.mk W,2 + at0 rows (↑i : Int),()) ∧ ((0 : Int) ≤ 2 + at0 rows (↑i : Int) ∧ 2 + at0
 rows (↑i : Int) < (↑W.length : Int)) ∧ ((0 : Int) ≤ 2 + at0 rows (↑i : Int) ∧ 2 + at0 rows (↑i : Int) < (↑W.length : Int)) ∧ holderD.pre (at0 W ((2 : Int) + at0 rows (↑i : Int)),()) ∧ ((!decide (at0 W ((2 : Int)
 + at0 rows (↑i : Int)) % 16 - 1 < 0)) = true → (decide ((0 : Int) < (↑tk.length : Int)) = true → Lf (qN st u0) (dsF o 33 25) 0 th c (3 : Int) 5 0 0 at_ row (at0 W ((2 : Int) + at0
 rows (↑i : Int))) val value (1 : Int) stamp (0 : Int) bk bst bse bsp true rs ws asked rows tk W (i64.wrap (steps + 1)) 1 ((2 : Int) + at0 rows (↑i : Int)) (at0 W ((2 : Int) + at0 rows (↑i : Int))) (at0 W
 ((2 : Int) + at0 rows (↑i : Int))) true) ∧ (decide ((0 : Int) < (↑tk.length : Int)) = false → Lf (qN st u0) (dsF o 33 25) 0 th c (3 : Int) 5 0 0 at_ row (at0 W ((2 : Int) + at0 rows (↑i :
 Int))) val value (1 : Int) stamp (0 : Int) bk bst bse bsp true rs ws asked rows tk W (i64.wrap (steps + 1)) 1 ((2 : Int) + at0 rows (↑i : Int)) (at0 W ((2 : Int) + at0 rows (↑i : Int))) (at0 W ((2 : Int)
 + at0 rows (↑i : Int))) true)) ∧ ((!decide (at0 W ((2 : Int) + at0 rows (↑i : Int)) % 16 - 1 < 0)) = false → Lf (qN st u0) (dsF o 33 25) 0 th c (1 : Int) 4 6 (↑i : Int) at_ row (at0 W ((2
 : Int) + at0 rows (↑i : Int))) val value cause stamp made bk bst bse bsp true rs ws asked rows tk W (i64.wrap (steps + 1)) 1 ((2 : Int) + at0 rows (↑i : Int)) (at0 W ((2 : Int) + at0 rows (↑i : Int)))
 (at0 W ((2 : Int) + at0 rows (↑i : Int))) true))) (XM.mk code th c (1 : Int) 4 5 i at_ row seen val value cause stamp made bk bst bse bsp true rs ws asked rows tk W steps lk la lv ls ld ybk ybst ybse
 ybsp)) := by kernel_rfl
theorem xs_l_ok (I : XM → Prop) (hW : W.length = 34) (hst : ∀ r : Int,0 ≤ r → r < 3 → 0 ≤ at0 W (2 + r) ∧ at0 W (2 + r) < 1099511627776) (hi : i < rows.length) (hrr : ∀ r ∈ rows,0 ≤ r ∧ r < 3) (hro : rows.length ≤ 3) : Paid (vcX (xStepD stepX I 36) ⟨code,th,c,1,4,5,i,at_,row,seen,val,value,cause,stamp,made,bk,bst,bse,bsp,true,rs,ws,asked,rows,tk,W,steps,lk,la,lv,ls,ld,ybk,ybst,ybse,ybsp⟩ (hpF o 0 34)) := by
 have ha : 0 ≤ at0 rows (i : Int) ∧ at0 rows (i : Int) < 3 := by rw [at0_get hi]; exact hrr _ (List.getElem_mem _)
 have hb := hst _ ha.1 ha.2
 refine ⟨?_⟩
 rw [xs_l]
 dsimp only
 refine ⟨rfl, ?_, ?_⟩
 ·intro h1
  exact absurd (qb h1) (by rw [hW]; decide)
 ·intro h2
  refine ⟨?_, ?_,⟨rfl,(show 0 ≤ at0 rows (↑i : Int) by omega),(show at0 rows (↑i : Int) < 3 by omega)⟩,(bad34 hW (show 0 ≤ 2 + at0 rows (↑i : Int) by omega) (show (2 : Int) + at0 rows (↑i : Int) < 34 by omega)), ?_, ?_,hb, ?_, ?_⟩
  ·exact ⟨(by omega),(by omega)⟩
  ·exact ⟨(by omega),(by omega)⟩
  ·exact ⟨(by omega),(by rw [hW]; omega)⟩
  ·exact ⟨(by omega),(by rw [hW]; omega)⟩
  ·intro h3
   simp only [qo,qy] at h3
   replace h3 : ltB (at0 W ((2 : Int) + at0 rows (i : Int)) % 16 - 1) ((0 : Int)) = false := h3
   refine ⟨?_, ?_⟩
   ·intro h4
    have h4g := qb h4
    replace h4 : ltB ((0 : Int)) ((tk.length : Int)) = true := h4
    first | exact deadL | exact lfB rfl (nf2 5 rfl) | exact deadS
   ·intro h5
    have h5g := qc h5
    replace h5 : ltB ((0 : Int)) ((tk.length : Int)) = false := h5
    first | exact deadL | exact lfB rfl (nf2 5 rfl) | exact deadS
  ·intro h6
   simp only [qo,qy] at h6
   replace h6 : ltB (at0 W ((2 : Int) + at0 rows (i : Int)) % 16 - 1) ((0 : Int)) = true := h6
   first | exact deadL | exact lfB rfl (nf2 5 rfl) | exact deadS
end Go.Proofs.YtmjjljngaefpaaaGreat

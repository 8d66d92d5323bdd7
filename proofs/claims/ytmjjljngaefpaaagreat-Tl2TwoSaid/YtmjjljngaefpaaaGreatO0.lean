/- Tl2Two: begun, read, written, committed: what each makes, of the program's and of the reference's. -/
import Derived.Test.YtmjjljngaefpaaaGreatOl
namespace Go.Proofs.YtmjjljngaefpaaaGreat
open Go.RowKit Go.Am Go.Sy
open Go.IntKind (i64 u64)
set_option linter.unusedVariables false
set_option linter.unusedSimpArgs false
variable (code th c life part : Int) (i : Nat) (at_ row seen val value cause stamp made bk bst bse bsp : Int) (ph ld : Bool) (rs ws tk : List Wo) (rows W : List Int) (asked steps lk la lv ls ybk ybst ybse ybsp p v z : Int) (k : Nat)
variable (o : Nat → Option Ob)
theorem xb_0 (I : XM → Prop) : Go.Sy.Tree.holds (vcC (cX Tryz.f9 b9) (xBegD I) ⟨code,th,c,0,0,part,i,at_,row,seen,val,value,cause,stamp,made,bk,bst,bse,bsp,ph,rs,ws,asked,rows,tk,W,steps,lk,la,
 lv,ls,ld,ybk,ybst,ybse,ybsp⟩ (hpF o 0 34)) = ( LxB (qE (beginX
 (XM.mk code th c (0 : Int) 0 part i at_ row seen val value cause stamp made bk bst bse bsp ph rs ws asked rows tk W steps lk la lv ls ld ybk ybst ybse ybsp))) (dsF o 33 25) W (0 : Int) steps lk la lv ls ld th c (1 : Int) 1 0 0 at_ row seen val (0 : Int) 0 stamp (0 : Int) bk bst bse bsp
 false) := by kernel_rfl
theorem xb_0ok (I : XM → Prop)  : Paid (vcC (cX Tryz.f9 b9) (xBegD I) ⟨code,th,c,0,0,part,i,at_,row,seen,val,value,cause,stamp,made,bk,bst,bse,bsp,ph,rs,ws,asked,rows,tk,W,steps,lk,la,lv,ls,ld,ybk,ybst,ybse,ybsp⟩ (hpF o 0 34)) := by
 refine ⟨?_⟩
 rw [xb_0]
 first | (exfalso; omega) | exact LxB_mk (by simp only [beginX,commitX,readX,writeX,putT,yz,yv,cond_true,cond_false]; try rfl) rfl
theorem xb_2 (I : XM → Prop) : Go.Sy.Tree.holds (vcC (cX Tryz.f9 b9) (xBegD I) ⟨code,th,c,2,0,part,i,at_,row,seen,val,value,cause,stamp,made,bk,bst,bse,bsp,ph,rs,ws,asked,rows,tk,W,steps,lk,la,
 lv,ls,ld,ybk,ybst,ybse,ybsp⟩ (hpF o 0 34)) = ( LxB (qE (beginX
 (XM.mk code th c (2 : Int) 0 part i at_ row seen val value cause stamp made bk bst bse bsp ph rs ws asked rows tk W steps lk la lv ls ld ybk ybst ybse ybsp))) (dsF o 33 25) W (0 : Int) steps lk la lv ls ld th c (1 : Int) 1 0 0 at_ row seen val (0 : Int) 0 stamp (0 : Int) bk bst bse bsp
 false) := by kernel_rfl
theorem xb_2ok (I : XM → Prop)  : Paid (vcC (cX Tryz.f9 b9) (xBegD I) ⟨code,th,c,2,0,part,i,at_,row,seen,val,value,cause,stamp,made,bk,bst,bse,bsp,ph,rs,ws,asked,rows,tk,W,steps,lk,la,lv,ls,ld,ybk,ybst,ybse,ybsp⟩ (hpF o 0 34)) := by
 refine ⟨?_⟩
 rw [xb_2]
 first | (exfalso; omega) | exact LxB_mk (by simp only [beginX,commitX,readX,writeX,putT,yz,yv,cond_true,cond_false]; try rfl) rfl
theorem xb_3 (I : XM → Prop) : Go.Sy.Tree.holds (vcC (cX Tryz.f9 b9) (xBegD I) ⟨code,th,c,3,0,part,i,at_,row,seen,val,value,cause,stamp,made,bk,bst,bse,bsp,ph,rs,ws,asked,rows,tk,W,steps,lk,la,
 lv,ls,ld,ybk,ybst,ybse,ybsp⟩ (hpF o 0 34)) = ( LxB (qE (beginX
 (XM.mk code th c (3 : Int) 0 part i at_ row seen val value cause stamp made bk bst bse bsp ph rs ws asked rows tk W steps lk la lv ls ld ybk ybst ybse ybsp))) (dsF o 33 25) W (0 : Int) steps lk la lv ls ld th c (1 : Int) 1 0 0 at_ row seen val (0 : Int) 0 stamp (0 : Int) bk bst bse bsp
 false) := by kernel_rfl
theorem xb_3ok (I : XM → Prop)  : Paid (vcC (cX Tryz.f9 b9) (xBegD I) ⟨code,th,c,3,0,part,i,at_,row,seen,val,value,cause,stamp,made,bk,bst,bse,bsp,ph,rs,ws,asked,rows,tk,W,steps,lk,la,lv,ls,ld,ybk,ybst,ybse,ybsp⟩ (hpF o 0 34)) := by
 refine ⟨?_⟩
 rw [xb_3]
 first | (exfalso; omega) | exact LxB_mk (by simp only [beginX,commitX,readX,writeX,putT,yz,yv,cond_true,cond_false]; try rfl) rfl
theorem xc_ (I : XM → Prop) : Go.Sy.Tree.holds (vcC (cX Tryz.f11 b11) (xComD I) ⟨code,th,c,1,0,part,i,at_,row,seen,val,value,cause,stamp,made,bk,bst,bse,bsp,ph,rs,ws,asked,rows,tk,W,steps,lk,
 la,lv,ls,ld,ybk,ybst,ybse,ybsp⟩ (hpF o 0 34)) = ( LxR (qE
 (commitX (XM.mk code th c (1 : Int) 0 part i at_ row seen val value cause stamp made bk bst bse bsp ph rs ws asked rows tk W steps lk la lv ls ld ybk ybst ybse ybsp))) (dsF o 33 25) rs ws rows tk W (0 : Int) steps lk la lv ls ld (filtT ws) asked th c (1 : Int) 4 4 0 at_ row seen val value
 cause stamp made bk bst bse bsp ph) := by kernel_rfl
theorem xc_ok (I : XM → Prop)  : Paid (vcC (cX Tryz.f11 b11) (xComD I) ⟨code,th,c,1,0,part,i,at_,row,seen,val,value,cause,stamp,made,bk,bst,bse,bsp,ph,rs,ws,asked,rows,tk,W,steps,lk,la,lv,ls,ld,ybk,ybst,ybse,ybsp⟩ (hpF o 0 34)) := by
 refine ⟨?_⟩
 rw [xc_]
 first | (exfalso; omega) | exact LxR_mk (by simp only [beginX,commitX,readX,writeX,putT,yz,yv,cond_true,cond_false]; try rfl) rfl rfl
theorem xr_ (I : XM × Int → Prop) : Go.Sy.Tree.holds (vcC (cX Tryz.f14 b14) (xReadD I) (⟨code,th,c,1,0,part,i,at_,row,seen,val,value,cause,stamp,made,bk,bst,bse,bsp,false,rs,ws,asked,rows,tk,W,
 steps,lk,la,lv,ls,ld,ybk,ybst,ybse,ybsp⟩,p) (hpF o 0 35))
 = ( (decide (p < 0) = true → hashD.pre (mp1,p,()) ∧ (decide (hashT p < 0) = true → (decide ((0 : Int) < (↑tk.length : Int)) = true → LxR (qE (readX p (XM.mk code th c (1 : Int) 0 part i at_ row seen val value
 cause stamp made bk bst bse bsp false rs ws asked rows tk W steps lk la lv ls ld ybk ybst ybse ybsp))) (dsF o 34 26) rs ws rows tk W (0 : Int) steps lk la lv ls ld (filtT ws) asked th c (3 : Int) 5 0 0 p (hashT p) seen val value (4 : Int) stamp (0 : Int) bk bst bse bsp false) ∧ (decide ((0 : Int) <
 (↑tk.length : Int)) = false → LxR (qE (readX p (XM.mk code th c (1 : Int) 0 part i at_ row seen val value cause stamp made bk bst bse bsp false rs ws asked rows tk W steps lk la lv ls ld ybk ybst ybse ybsp)))
 (dsF o 34 26) rs ws rows tk W (2 : Int) steps lk la lv ls ld (filtT ws) asked th c (3 : Int) 0
 0 0 p (hashT p) seen val value (4 : Int) stamp (0 : Int) bk bst bse bsp false)) ∧ (decide (hashT p < 0) = false → roomD.pre (Rs.mk (32 : Int) rs,hashT p,()) ∧ LxR (qE (readX p (XM.mk code th c (1 : Int)
 0 part i at_ row seen val value cause stamp made bk bst bse bsp false rs ws asked rows tk W steps lk la lv ls ld ybk ybst ybse ybsp))) (dsF o 34 26) rs ws rows tk W (0 : Int) steps lk la lv ls ld (filtT ws) asked th c (1 : Int) 2 0 0 p (hashT p) seen val value cause stamp made bk bst bse
 bsp false)) ∧ (decide (p < 0) = false → bitD.pre (p,()) ∧ ((u64.wrap (↑(BitVec.ofInt u64.bits (filtT ws) &&& BitVec.ofInt u64.bits (bitT p)).toNat : Int) == 0) = true → hashD.pre (mp1,p,()) ∧
 (decide (hashT p < 0) = true → (decide ((0 : Int) < (↑tk.length : Int)) = true → LxR (qE (readX p (XM.mk code th c (1 : Int) 0 part i at_ row seen val value cause stamp made bk bst bse bsp false rs ws asked rows
 tk W steps lk la lv ls ld ybk ybst ybse ybsp))) (dsF o 34 26) rs ws rows tk W (0 : Int) steps lk la lv
 ls ld (filtT ws) asked th c (3 : Int) 5 0 0 p (hashT p) seen val value (4 : Int) stamp (0 : Int) bk bst bse bsp false) ∧ (decide ((0 : Int) < (↑tk.length : Int)) = false → LxR (qE (readX p (XM.mk
 code th c (1 : Int) 0 part i at_ row seen val value cause stamp made bk bst bse bsp false rs ws asked rows tk W steps lk la lv ls ld ybk ybst ybse ybsp))) (dsF o 34 26) rs ws rows tk W (2 : Int) steps lk la lv ls ld (filtT ws) asked th c (3 : Int) 0 0 0 p (hashT p) seen val value (4 : Int)
 stamp (0 : Int) bk bst bse bsp false)) ∧ (decide (hashT p < 0) = false → roomD.pre (Rs.mk (32 : Int) rs,hashT p,()) ∧ LxR (qE (readX p (XM.mk code th c (1 : Int) 0 part i at_ row seen val value cause stamp made
 bk bst bse bsp false rs ws asked rows tk W steps lk la lv ls ld ybk ybst ybse ybsp))) (dsF o 34 26) rs
 ws rows tk W (0 : Int) steps lk la lv ls ld (filtT ws) asked th c (1 : Int) 2 0 0 p (hashT p) seen val value cause stamp made bk bst bse bsp false)) ∧ ((u64.wrap (↑(BitVec.ofInt
 u64.bits (filtT ws) &&& BitVec.ofInt u64.bits (bitT p)).toNat : Int) == 0) = false → findD.pre (Wr.mk (32 : Int) ws (filtT ws),p,()) ∧ (decide (findT ws p ≥ 0) = true → Bd 2 (findT ws p)
 (↑ws.length : Int) (LxR (qE (readX p (XM.mk code th c (1 : Int) 0 part i at_ row seen val value cause stamp made bk bst bse bsp false rs ws asked rows tk W steps lk la lv ls ld ybk ybst ybse ybsp))) (dsF o 34 26) rs ws rows tk W (1 : Int) steps lk la lv ls ld (filtT ws) (i64.wrap (asked + 1)) th c (1 :
 Int) 0 part (↑i : Int) at_ row seen val ((at3 ws (findT ws p)).vl) cause stamp made bk bst bse bsp false)) ∧ (decide (findT ws p ≥ 0) = false → hashD.pre (mp1,p,()) ∧ (decide (hashT p < 0) = true →
 (decide ((0 : Int) < (↑tk.length : Int)) = true → LxR (qE (readX p (XM.mk code th c (1 : Int) 0 part i at_ row seen val value cause stamp made bk bst bse bsp false rs ws asked rows tk W steps lk la lv ls ld ybk
 ybst ybse ybsp))) (dsF o 34 26) rs ws rows tk W (0 : Int) steps lk la lv ls ld (filtT ws)
 (i64.wrap (asked + 1)) th c (3 : Int) 5 0 0 p (hashT p) seen val value (4 : Int) stamp (0 : Int) bk bst bse bsp false) ∧ (decide ((0 : Int) < (↑tk.length : Int)) = false → LxR (qE (readX p
 (XM.mk code th c (1 : Int) 0 part i at_ row seen val value cause stamp made bk bst bse bsp false rs ws asked rows tk W steps lk la lv ls ld ybk ybst ybse ybsp))) (dsF o 34 26) rs ws rows tk W (2 : Int) steps lk la lv ls ld (filtT ws) (i64.wrap (asked + 1)) th c (3 : Int) 0 0 0 p
 (hashT p) seen val value (4 : Int) stamp (0 : Int) bk bst bse bsp false)) ∧ (decide (hashT p < 0) = false → roomD.pre (Rs.mk (32 : Int) rs,hashT p,()) ∧ LxR (qE (readX p (XM.mk code th c (1 : Int) 0 part i at_
 row seen val value cause stamp made bk bst bse bsp false rs ws asked rows tk W steps lk la lv ls ld ybk ybst ybse ybsp))) (dsF o 34 26) rs ws rows tk W (0 : Int) steps lk la lv ls ld (filtT ws) (i64.wrap (asked + 1)) th c (1 : Int) 2 0 0 p (hashT p) seen val value cause stamp made bk bst
 bse bsp false))))) := by kernel_rfl
theorem xr_ok (I : XM × Int → Prop) (hp : isData p) (htk : tk.length = 0) (hrs : rs.length ≤ 9) (hws : ws.length ≤ 4) : Paid (vcC (cX Tryz.f14 b14) (xReadD I) (⟨code,th,c,1,0,part,i,at_,row,seen,val,value,cause,stamp,made,bk,bst,bse,bsp,false,rs,ws,asked,rows,tk,W,steps,lk,la,lv,ls,ld,ybk,ybst,ybse,ybsp⟩,p) (hpF o 0 35)) := by
 have hd := data_lt hp
 have hh := hash_ge hp
 refine ⟨?_⟩
 rw [xr_]
 refine ⟨?_, ?_⟩
 ·intro h1
  have h1g := qb h1
  exfalso; omega
 ·intro h2
  have h2g := qc h2
  refine ⟨hp, ?_, ?_⟩
  ·intro h3
   rw [filt_bit ws p hp] at h3
   simp only [qo,qy] at h3
   refine ⟨⟨rfl,hp⟩, ?_, ?_⟩
   ·intro h4
    have h4g := qb h4
    exfalso; omega
   ·intro h5
    have h5g := qc h5
    refine ⟨⟨rfl,(show rs.length < 32 by omega)⟩, ?_⟩
    first | (exfalso; omega) | exact LxR_mk (by simp only [beginX,commitX,readX,writeX,putT,yz,yv,h2,h3,h5,cond_true,cond_false]; try rfl) rfl rfl
  ·intro h6
   rw [filt_bit ws p hp] at h6
   simp only [qo,qy] at h6
   have hfi := find_in h6
   refine ⟨⟨(show ws.length ≤ 1000 by omega),hp,rfl⟩, ?_, ?_⟩
   ·intro h7
    have h7g := qb h7
    have h8 : hasB ws p = true := by have := find_lt (l := ws) (k := p) (v := false) (decide_eq_false (by omega)); exact this
    have hfi := find_in h8
    refine bd (show 0 ≤ findT ws p by omega) (by omega) ?_ 2
    first | (exfalso; omega) | exact LxR_mk (by simp only [beginX,commitX,readX,writeX,putT,yz,yv,h2,h6,h8,h7,cond_true,cond_false]; try rfl) rfl rfl
   ·intro h9
    have h9g := qc h9
    have h10 : hasB ws p = false := by have := find_lt (l := ws) (k := p) (v := true) (decide_eq_true (by omega)); exact this
    refine ⟨⟨rfl,hp⟩, ?_, ?_⟩
    ·intro h11
     have h11g := qb h11
     exfalso; omega
    ·intro h12
     have h12g := qc h12
     refine ⟨⟨rfl,(show rs.length < 32 by omega)⟩, ?_⟩
     first | (exfalso; omega) | exact LxR_mk (by simp only [beginX,commitX,readX,writeX,putT,yz,yv,h2,h6,h10,h9,h12,cond_true,cond_false]; try rfl) rfl rfl
theorem xw_ (I : XM × Int × Int → Prop) : Go.Sy.Tree.holds (vcC (cX Tryz.f16 b16) (xWrtD I) (⟨code,th,c,1,0,part,i,at_,row,seen,val,value,cause,stamp,made,bk,bst,bse,bsp,false,rs,ws,asked,rows,tk,
 W,steps,lk,la,lv,ls,ld,ybk,ybst,ybse,ybsp⟩,p,v) (hpF o 0 35)) = ( hashD.pre (mp1,p,()) ∧ (decide (hashT p < 0) = true → (decide ((0 : Int) < (↑tk.length : Int)) = true → LxW (qE (writeX p v (XM.mk code th c (1 : Int) 0 part i at_ row seen val value cause stamp made
 bk bst bse bsp false rs ws asked rows tk W steps lk la lv ls ld ybk ybst ybse ybsp))) (dsF o 34 26) rs
 rows tk W (0 : Int) steps lk la lv ls ld ws (filtT ws) asked th c (3 : Int) 5 0 0 at_ row seen val value (4 : Int) stamp (0 : Int) bk bst bse bsp false) ∧ (decide ((0 : Int) < (↑tk.length : Int))
 = false → LxW (qE (writeX p v (XM.mk code th c (1 : Int) 0 part i at_ row seen val value cause stamp made bk bst bse bsp false rs ws asked rows tk W steps lk la lv ls ld ybk ybst ybse ybsp))) (dsF o 34 26) rs rows tk W (2 : Int) steps lk la lv ls ld ws (filtT ws) asked th c (3 : Int) 0 0 0
 at_ row seen val value (4 : Int) stamp (0 : Int) bk bst bse bsp false)) ∧ (decide (hashT p < 0) = false → (decide (p < 0) = true → (decide ((0 : Int) < (↑tk.length : Int)) = true → LxW (qE (writeX p v (XM.mk code th c (1
 : Int) 0 part i at_ row seen val value cause stamp made bk bst bse bsp false rs ws asked rows tk W steps lk la lv ls ld ybk ybst ybse ybsp))) (dsF o 34 26) rs rows tk W (0 : Int) steps lk la lv ls ld ws (filtT ws) asked th c (3 : Int) 5 0 0 at_ row seen val value (4 : Int) stamp (0 : Int) bk
 bst bse bsp false) ∧ (decide ((0 : Int) < (↑tk.length : Int)) = false → LxW (qE (writeX p v (XM.mk code th c (1 : Int) 0 part i at_ row seen val value cause stamp made bk bst bse bsp false rs ws asked rows tk W
 steps lk la lv ls ld ybk ybst ybse ybsp))) (dsF o 34 26) rs rows tk W (2 : Int) steps lk la lv ls ld ws
 (filtT ws) asked th c (3 : Int) 0 0 0 at_ row seen val value (4 : Int) stamp (0 : Int) bk bst bse bsp false)) ∧ (decide (p < 0) = false → findD.pre (Wr.mk (32 : Int) ws (filtT ws),p,()) ∧
 (decide (findT ws p ≥ 0) = true → Bd 2 (findT ws p) (↑ws.length : Int) (LxW (qE (writeX p v (XM.mk code th c (1 : Int) 0 part i at_ row seen val value cause stamp made bk bst bse bsp false rs ws asked
 rows tk W steps lk la lv ls ld ybk ybst ybse ybsp))) (dsF o 34 26) rs rows tk W (1 : Int) steps lk la lv
 ls ld (ws.set (findT ws p).toNat (Wo.mk (at3 ws (findT ws p)).pl v)) (filtT ws) asked th c (1 : Int) 0 part (↑i : Int) at_ row seen val value cause stamp made bk bst bse bsp false)) ∧ (decide (findT ws p ≥ 0) = false → (decide ((↑ws.length : Int) ≥ 32) = true → (decide ((0 : Int) < (↑tk.length : Int)) = true → LxW (qE (writeX p v (XM.mk code th c (1 : Int) 0 part i at_ row seen val value cause stamp made
 bk bst bse bsp false rs ws asked rows tk W steps lk la lv ls ld ybk ybst ybse ybsp))) (dsF o 34 26) rs
 rows tk W (0 : Int) steps lk la lv ls ld ws (filtT ws) asked th c (3 : Int) 5 0 0 at_ row seen val value (4 : Int) stamp (0 : Int) bk bst bse bsp false) ∧ (decide ((0 : Int) < (↑tk.length : Int))
 = false → LxW (qE (writeX p v (XM.mk code th c (1 : Int) 0 part i at_ row seen val value cause stamp made bk bst bse bsp false rs ws asked rows tk W steps lk la lv ls ld ybk ybst ybse ybsp))) (dsF o 34 26) rs rows tk W (2 : Int) steps lk la lv ls ld ws (filtT ws) asked th c (3 : Int) 0 0 0
 at_ row seen val value (4 : Int) stamp (0 : Int) bk bst bse bsp false)) ∧ (decide ((↑ws.length : Int) ≥ 32) = false → (ws.length + [Wo.mk p v].length) * 16 ≤ 140737488355328 ∧ bitD.pre (p,()) ∧ LxW (qE (writeX p
 v (XM.mk code th c (1 : Int) 0 part i at_ row seen val value cause stamp made bk bst bse bsp false rs ws asked rows tk W steps lk la lv ls ld ybk ybst ybse ybsp))) (dsF o 34 26) rs rows tk W (1 : Int) steps lk la lv ls ld (ws ++ [Wo.mk p v]) (u64.wrap (↑(BitVec.ofInt u64.bits (filtT ws) |||
 BitVec.ofInt u64.bits (bitT p)).toNat : Int)) asked th c (1 : Int) 0 part (↑i : Int) at_ row seen val value cause stamp made bk bst bse bsp false))))) := by kernel_rfl
theorem xw_ok (I : XM × Int × Int → Prop) (hp : isData p) (htk : tk.length = 0) (hws : ws.length ≤ 4) : Paid (vcC (cX Tryz.f16 b16) (xWrtD I) (⟨code,th,c,1,0,part,i,at_,row,seen,val,value,cause,stamp,made,bk,bst,bse,bsp,false,rs,ws,asked,rows,tk,W,steps,lk,la,lv,ls,ld,ybk,ybst,ybse,ybsp⟩,p,v) (hpF o 0 35)) := by
 have hd := data_lt hp
 have hh := hash_ge hp
 refine ⟨?_⟩
 rw [xw_]
 refine ⟨⟨rfl,hp⟩, ?_, ?_⟩
 ·intro h1
  have h1g := qb h1
  exfalso; omega
 ·intro h2
  have h2g := qc h2
  refine ⟨?_, ?_⟩
  ·intro h3
   have h3g := qb h3
   exfalso; omega
  ·intro h4
   have h4g := qc h4
   refine ⟨⟨(show ws.length ≤ 1000 by omega),hp,rfl⟩, ?_, ?_⟩
   ·intro h5
    have h5g := qb h5
    have h6 : hasB ws p = true := by have := find_lt (l := ws) (k := p) (v := false) (decide_eq_false (by omega)); exact this
    have hfi := find_in h6
    refine bd (show 0 ≤ findT ws p by omega) (by omega) ?_ 2
    first | (exfalso; omega) | exact LxW_mk (by simp only [beginX,commitX,readX,writeX,putT,yz,yv,h2,h4,h6,h5,cond_true,cond_false]; try rfl) rfl (filt_set ws (findT ws p) v (by omega))
   ·intro h7
    have h7g := qc h7
    have h8 : hasB ws p = false := by have := find_lt (l := ws) (k := p) (v := true) (decide_eq_true (by omega)); exact this
    refine ⟨?_, ?_⟩
    ·intro h9
     have h9g := qb h9
     exfalso; omega
    ·intro h10
     have h10g := qc h10
     refine ⟨(by simp only [qh,qp,List.length_nil]; omega),hp, ?_⟩
     first | (exfalso; omega) | exact LxW_mk (by simp only [beginX,commitX,readX,writeX,putT,yz,yv,h2,h4,h8,h7,h10,cond_true,cond_false]; try rfl) rfl (filt_put ws p v hp)
theorem yb_ (I : XM → Prop) (s : XM) (z : Int) (k : Nat) (code th c : Int) (su ph : Bool) (st : Int) (i : Nat) (at_ seen val value cause stamp made : Int) (ld : Bool) (rs ws : List Wo) (old rows W : List Int) (asked steps
 lk la lv ls ybk ybst ybse ybsp : Int) : Go.Sy.Tree.holds (vcC (cY Tryz.f10 b10) (yBegD I) (s,z,k,⟨code,th,c,false,su,ph,0,st,i,at_,seen,val,value,cause,stamp,made,ybk,ybst,ybse,ybsp,rs,ws,asked,
 rows,old,W,steps,lk,la,lv,ls,ld⟩) (hpF o 0 34)) = ( LyB (qE (yv
 (beginX s))) (dsF o 33 18 ++ dsF o 8 9) W (0 : Int) steps lk la lv ls ld th c true false false (1 : Int) 0 0 at_ val seen (0 : Int) stamp (0 : Int) 0 ybk ybst ybse ybsp) := by kernel_rfl
theorem yb_ok (I : XM → Prop)  : Paid (vcC (cY Tryz.f10 b10) (yBegD I) (⟨code,th,c,life,0,part,i,at_,row,seen,val,value,cause,stamp,made,bk,bst,bse,bsp,ph,rs,ws,asked,rows,tk,W,steps,lk,la,lv,ls,ld,ybk,ybst,ybse,ybsp⟩,z,k,⟨code,th,c,false,life == 2,ph || (life == 2 && true),0,z,k,at_,seen,val,value,cause,stamp,made,ybk,ybst,ybse,ybsp,rs,ws,asked,rows,tk.map (·.vl),W,steps,lk,la,lv,ls,ld⟩) (hpF o 0 34)) := by
 refine ⟨?_⟩
 rw [yb_]
 first | (exfalso; omega) | exact LyB_mk (by simp only [beginX,commitX,readX,writeX,putT,yz,yv,cond_true,cond_false]; try rfl) rfl
theorem yc_ (I : XM → Prop) (s : XM) (z : Int) (k : Nat) (code th c : Int) (su ph : Bool) (st : Int) (i : Nat) (at_ seen val value cause stamp made : Int) (ld : Bool) (rs ws : List Wo) (old rows W : List Int) (asked steps
 lk la lv ls ybk ybst ybse ybsp : Int) : Go.Sy.Tree.holds (vcC (cY Tryz.f12 b12) (yComD I) (s,z,k,⟨code,th,c,true,su,ph,0,st,i,at_,seen,val,value,cause,stamp,made,ybk,ybst,ybse,ybsp,rs,ws,asked,
 rows,old,W,steps,lk,la,lv,ls,ld⟩) (hpF o 0 34)) = ( LyR (qE (yv
 (commitX s))) (dsF o 33 18 ++ dsF o 8 9) rs ws rows old W (0 : Int) steps lk la lv ls ld th c asked true su ph (4 : Int)
 0 0 at_ val seen value stamp made cause ybk ybst ybse ybsp) := by kernel_rfl
theorem yc_ok (I : XM → Prop)  : Paid (vcC (cY Tryz.f12 b12) (yComD I) (⟨code,th,c,1,0,part,i,at_,row,seen,val,value,cause,stamp,made,bk,bst,bse,bsp,false,rs,ws,asked,rows,tk,W,steps,lk,la,lv,ls,ld,ybk,ybst,ybse,ybsp⟩,z,k,⟨code,th,c,true,false,false,0,z,k,at_,seen,val,value,cause,stamp,made,ybk,ybst,ybse,ybsp,rs,ws,asked,rows,tk.map (·.vl),W,steps,lk,la,lv,ls,ld⟩) (hpF o 0 34)) := by
 refine ⟨?_⟩
 rw [yc_]
 first | (exfalso; omega) | exact LyR_mk (by simp only [beginX,commitX,readX,writeX,putT,yz,yv,cond_true,cond_false]; try rfl) rfl
theorem yr_ (I : XM × Int → Prop) (s : XM) (z : Int) (k : Nat) (code th c : Int) (su : Bool) (st : Int) (i : Nat) (at_ seen val value cause stamp made : Int) (ld : Bool) (rs ws : List Wo) (old rows W : List Int) (asked
 steps lk la lv ls ybk ybst ybse ybsp : Int) (p : Int) : Go.Sy.Tree.holds (vcC (cY Tryz.f15 b15) (yReadD I) (s,p,z,k,⟨code,th,c,true,su,false,0,st,i,at_,seen,val,value,cause,stamp,made,ybk,ybst,ybse,
 ybsp,rs,ws,asked,rows,old,W,steps,lk,la,lv,ls,ld⟩) (hpF o 0 35)) = ( (decide (p ≥ 0) = true → sizeD.pre (mp1,()) ∧ ((!decide (p < 34)) = true → (((↑old.length : Int) == 0) = true → LyR (qE (yz (readX p s) 0 0)) (dsF o 34 19 ++ dsF o 8 9) rs ws rows old W (2 : Int) steps lk la lv ls ld th c asked false su false (0 : Int) 0 0 at_ val seen value
 stamp (0 : Int) 4 ybk ybst ybse ybsp) ∧ (((↑old.length : Int) == 0) = false → LyR (qE (yz (readX p s) 0 0)) (dsF o 34 19 ++ dsF o 8 9) rs ws rows old W (0 : Int) steps lk la lv ls ld th c asked false su false (5 : Int) 0 0 at_ val seen value stamp (0 : Int) 4 ybk ybst ybse ybsp)) ∧
 ((!decide (p < 34)) = false → (decide (p < 0) = true → hashD.pre (mp1,p,()) ∧ roomD.pre (Rs.mk (32 : Int) rs,hashT p,()) ∧ LyR (qE (yz (readX p s) 0 0)) (dsF o 34 19 ++ dsF o 8 9) rs ws rows old W (0 : Int) steps lk la lv ls ld th c asked true su false (2 : Int) 0 0 p val seen value stamp made
 cause ybk ybst ybse ybsp) ∧ (decide (p < 0) = false → filtD.pre (Wq.mk (32 : Int) asked ws,()) ∧ 0 ≤ u64.wrap (p.tmod 64) ∧ ((((filtT ws).fdiv ((2 : Int) ^ min (u64.wrap (p.tmod 64)).toNat
 u64.bits)).tmod 2 == 0) = true → hashD.pre (mp1,p,()) ∧ roomD.pre (Rs.mk (32 : Int) rs,hashT p,()) ∧ LyR (qE (yz (readX p s) 0 0)) (dsF o 34 19 ++ dsF o 8 9) rs ws rows old W (0 : Int) steps lk la lv ls ld th c asked true su false (2 : Int) 0 0 p val seen value stamp made cause ybk ybst
 ybse ybsp) ∧ ((((filtT ws).fdiv ((2 : Int) ^ min (u64.wrap (p.tmod 64)).toNat u64.bits)).tmod 2 == 0) = false → seekD.pre (ws,p,()) ∧ (decide (findT ws p ≥ 0) = true → Bd 2 (findT ws p)
 (↑ws.length : Int) (LyR (qE (yz (readX p s) 0 0)) (dsF o 34 19 ++ dsF o 8 9) rs ws rows old W (1 :
 Int) steps lk la lv ls ld th c (i64.wrap (asked + 1)) true su false (0 : Int) 0 0 at_ val seen ((at3 ws (findT ws p)).vl) stamp made cause ybk ybst ybse ybsp)) ∧ (decide (findT ws p ≥ 0) =
 false → hashD.pre (mp1,p,()) ∧ roomD.pre (Rs.mk (32 : Int) rs,hashT p,()) ∧ LyR (qE (yz (readX p s) 0 0)) (dsF o 34 19 ++ dsF o 8 9) rs ws rows old W (0 : Int) steps lk la lv ls ld th c (i64.wrap (asked + 1)) true su false (2 : Int) 0 0 p val seen value stamp made cause ybk ybst ybse
 ybsp))))) ∧ (decide (p ≥ 0) = false → (((↑old.length : Int) == 0) = true → LyR (qE (yz (readX p s) 0 0)) (dsF o 34 19 ++ dsF o 8 9) rs ws rows old W (2 : Int) steps lk la lv ls ld th c asked false su false (0 : Int) 0 0 at_ val seen value stamp (0 : Int) 4 ybk ybst ybse ybsp) ∧
 (((↑old.length : Int) == 0) = false → LyR (qE (yz (readX p s) 0 0)) (dsF o 34 19 ++ dsF o 8 9) rs
 ws rows old W (0 : Int) steps lk la lv ls ld th c asked false su false (5 : Int) 0 0 at_ val seen value stamp (0 : Int) 4 ybk ybst ybse ybsp))) := by kernel_rfl
theorem yr_ok (I : XM × Int → Prop) (hp : isData p) (htk : tk.length = 0) (hrs : rs.length ≤ 9) (hws : ws.length ≤ 4) (hwd : ∀ w ∈ ws,isData w.pl) : Paid (vcC (cY Tryz.f15 b15) (yReadD I) (⟨code,th,c,1,0,part,i,at_,row,seen,val,value,cause,stamp,made,bk,bst,bse,bsp,false,rs,ws,asked,rows,tk,W,steps,lk,la,lv,ls,ld,ybk,ybst,ybse,ybsp⟩,p,z,k,⟨code,th,c,true,false,false,0,z,k,at_,seen,val,value,cause,stamp,made,ybk,ybst,ybse,ybsp,rs,ws,asked,rows,tk.map (·.vl),W,steps,lk,la,lv,ls,ld⟩) (hpF o 0 35)) := by
 have hd := data_lt hp
 have hh := hash_ge hp
 refine ⟨?_⟩
 rw [yr_]
 refine ⟨?_, ?_⟩
 ·intro h1
  have h1g := qb h1
  refine ⟨rfl, ?_, ?_⟩
  ·intro h2
   simp only [qo] at h2
   have h2g := qc h2
   exfalso; omega
  ·intro h3
   simp only [qo,qy] at h3
   refine ⟨?_, ?_⟩
   ·intro h4
    have h4g := qb h4
    exfalso; omega
   ·intro h5
    have h5g := qc h5
    refine ⟨⟨(show ws.length ≤ 1000 by omega),hwd⟩,(shr_ok hp), ?_, ?_⟩
    ·intro h6
     rw [filt_shr ws p hp] at h6
     simp only [qo,qy] at h6
     refine ⟨⟨rfl,hp⟩,⟨rfl,(show rs.length < 32 by omega)⟩, ?_⟩
     first | (exfalso; omega) | exact LyR_mk (by simp only [beginX,commitX,readX,writeX,putT,yz,yv,h1,h3,h5,h6,cond_true,cond_false]; try rfl) rfl
    ·intro h7
     rw [filt_shr ws p hp] at h7
     simp only [qo,qy] at h7
     have hfi := find_in h7
     refine ⟨(show ws.length ≤ 1000 by omega), ?_, ?_⟩
     ·intro h8
      have h8g := qb h8
      have h9 : hasB ws p = true := by have := find_lt (l := ws) (k := p) (v := false) (decide_eq_false (by omega)); exact this
      have hfi := find_in h9
      refine bd (show 0 ≤ findT ws p by omega) (by omega) ?_ 2
      first | (exfalso; omega) | exact LyR_mk (by simp only [beginX,commitX,readX,writeX,putT,yz,yv,h1,h3,h5,h7,h9,h8,cond_true,cond_false]; try rfl) rfl
     ·intro h10
      have h10g := qc h10
      have h11 : hasB ws p = false := by have := find_lt (l := ws) (k := p) (v := true) (decide_eq_true (by omega)); exact this
      refine ⟨⟨rfl,hp⟩,⟨rfl,(show rs.length < 32 by omega)⟩, ?_⟩
      first | (exfalso; omega) | exact LyR_mk (by simp only [beginX,commitX,readX,writeX,putT,yz,yv,h1,h3,h5,h7,h11,h10,cond_true,cond_false]; try rfl) rfl
 ·intro h12
  have h12g := qc h12
  exfalso; omega
theorem yw_ (I : XM × Int × Int → Prop) (s : XM) (z : Int) (k : Nat) (code th c : Int) (su : Bool) (st : Int) (i : Nat) (at_ seen val value cause stamp made : Int) (ld : Bool) (rs ws : List Wo) (old rows W : List Int)
 (asked steps lk la lv ls ybk ybst ybse ybsp : Int) (p v : Int) : Go.Sy.Tree.holds (vcC (cY Tryz.f17 b17) (yWrtD I) (s,p,v,z,k,⟨code,th,c,true,su,false,0,st,i,at_,seen,val,value,cause,stamp,made,ybk,
 ybst,ybse,ybsp,rs,ws,asked,rows,old,W,steps,lk,la,lv,ls,ld⟩) (hpF o 0 36)) = ( (decide (p ≥ 0) = true → sizeD.pre (mp1,()) ∧ ((!decide (p < 34)) = true → (((↑old.length : Int) == 0) = true → LyW (qE (yz (writeX p v s) z k)) (dsF o 35 20 ++ dsF o 8 9) rs rows old W (2 : Int) steps lk la lv ls ld th c asked ws false su false (0 : Int) 0 0 at_ val seen
 value stamp (0 : Int) 4 ybk ybst ybse ybsp) ∧ (((↑old.length : Int) == 0) = false → LyW (qE (yz (writeX p v s) z k)) (dsF o 35 20 ++ dsF o 8 9) rs rows old W (0 : Int) steps lk la lv ls ld th c asked ws false su false (5 : Int) 0 0 at_ val seen value stamp (0 : Int) 4 ybk ybst ybse ybsp)) ∧
 ((!decide (p < 34)) = false → seekD.pre (ws,p,()) ∧ (decide (p < 0) = true → (((↑old.length : Int) == 0) = true → LyW (qE (yz (writeX p v s) z k)) (dsF o 35 20 ++ dsF o 8 9) rs rows old W (2 : Int) steps lk la lv ls ld th c asked ws false su false (0 : Int) 0 0 at_ val seen value stamp (0 : Int) 4 ybk
 ybst ybse ybsp) ∧ (((↑old.length : Int) == 0) = false → LyW (qE (yz (writeX p v s) z k)) (dsF o 35 20 ++ dsF o 8 9) rs rows old W (0 : Int) steps lk la lv ls ld th c asked ws false su false (5 : Int) 0 0 at_ val seen value stamp (0 : Int) 4 ybk ybst ybse ybsp)) ∧ (decide (p < 0) = false → (decide (findT
 ws p < 0) = true → (decide ((↑ws.length : Int) ≥ 32) = true → (((↑old.length : Int) == 0) = true → LyW (qE (yz (writeX p v s) z k)) (dsF o 35 20 ++ dsF o 8 9) rs rows old W (2 : Int) steps lk la lv ls ld th c asked ws false su false (0 : Int) 0 0 at_ val seen value stamp (0 : Int) 4 ybk ybst ybse
 ybsp) ∧ (((↑old.length : Int) == 0) = false → LyW (qE (yz (writeX p v s) z k)) (dsF o 35 20 ++ dsF o 8 9) rs
 rows old W (0 : Int) steps lk la lv ls ld th c asked ws false su false (5 : Int) 0 0 at_ val seen value stamp (0 : Int) 4 ybk ybst ybse ybsp)) ∧ (decide ((↑ws.length : Int) ≥ 32) = false →
 (decide (findT ws p < 0) = true → (ws.length + [Wo.mk p (0 : Int)].length) * 16 ≤ 140737488355328 ∧ Bd 2 (i64.wrap ((↑(ws ++ [Wo.mk p (0 : Int)]).length : Int) - 1)) (↑(ws ++ [Wo.mk p (0 : Int)]).length : Int)
 (LyW (qE (yz (writeX p v s) z k)) (dsF o 35 20 ++ dsF o 8 9) rs rows old W (1 : Int) steps lk la lv ls ld th c
 asked ((ws ++ [Wo.mk p (0 : Int)]).set (i64.wrap ((↑(ws ++ [Wo.mk p (0 : Int)]).length : Int) - 1)).toNat (Wo.mk (at3 (ws ++ [Wo.mk p (0 : Int)]) (i64.wrap ((↑(ws ++ [Wo.mk p (0 : Int)]).length : Int) -
 1))).pl v)) true su false (0 : Int) st (↑i : Int) at_ val seen value stamp made cause ybk ybst ybse ybsp)) ∧ (decide (findT ws p < 0) = false → Bd 2 (findT ws p) (↑ws.length : Int) (LyW (qE (yz (writeX p v s) z k)) (dsF o 35 20 ++ dsF o 8 9) rs rows old W (1 : Int) steps lk la lv ls ld th c asked (ws.set (findT ws p).toNat (Wo.mk
 (at3 ws (findT ws p)).pl v)) true su false (0 : Int) st (↑i : Int) at_ val seen value stamp made cause ybk ybst ybse ybsp)))) ∧ (decide (findT ws p < 0) = false → (decide (findT ws p < 0) = true → (ws.length + [Wo.mk p
 0].length) * 16 ≤ 140737488355328 ∧ Bd 2 (i64.wrap ((↑(ws ++ [Wo.mk p (0 : Int)]).length : Int) - 1)) (↑(ws ++ [Wo.mk p (0 : Int)]).length : Int) (LyW (qE (yz (writeX p v s) z k)) (dsF o 35 20 ++ dsF o 8 9) rs rows old W (1 : Int) steps lk la lv ls ld th c asked ((ws ++ [Wo.mk p (0 : Int)]).set
 (i64.wrap ((↑(ws ++ [Wo.mk p (0 : Int)]).length : Int) - 1)).toNat (Wo.mk (at3 (ws ++ [Wo.mk p (0 : Int)]) (i64.wrap ((↑(ws ++ [Wo.mk p (0 : Int)]).length : Int) - 1))).pl v)) true su false (0 : Int) st
 (↑i : Int) at_ val seen value stamp made cause ybk ybst ybse ybsp)) ∧ (decide (findT ws p < 0) = false → Bd 2 (findT ws p) (↑ws.length : Int) (LyW (qE (yz (writeX p v s) z k)) (dsF o 35 20 ++ dsF o 8 9) rs rows old W (1 : Int) steps lk la lv ls ld th c asked (ws.set (findT ws p).toNat (Wo.mk (at3 ws (findT ws p)).pl v)) true
 su false (0 : Int) st (↑i : Int) at_ val seen value stamp made cause ybk ybst ybse ybsp)))))) ∧ (decide (p ≥ 0) = false → (((↑old.length : Int) == 0) = true → LyW (qE (yz (writeX p v s) z k)) (dsF o 35 20 ++ dsF o 8 9) rs rows old W (2 : Int) steps lk la lv ls ld th c asked ws false su false (0 : Int) 0 0
 at_ val seen value stamp (0 : Int) 4 ybk ybst ybse ybsp) ∧ (((↑old.length : Int) == 0) = false → LyW (qE (yz (writeX p v s) z k)) (dsF o 35 20 ++ dsF o 8 9) rs rows old W (0 : Int) steps lk la lv ls ld th c asked ws false su false (5 : Int) 0 0 at_ val seen value stamp (0 : Int) 4 ybk ybst ybse
 ybsp))) := by kernel_rfl
theorem yw_ok (I : XM × Int × Int → Prop) (hp : isData p) (htk : tk.length = 0) (hws : ws.length ≤ 4) : Paid (vcC (cY Tryz.f17 b17) (yWrtD I) (⟨code,th,c,1,0,part,i,at_,row,seen,val,value,cause,stamp,made,bk,bst,bse,bsp,false,rs,ws,asked,rows,tk,W,steps,lk,la,lv,ls,ld,ybk,ybst,ybse,ybsp⟩,p,v,z,k,⟨code,th,c,true,false,false,0,z,k,at_,seen,val,value,cause,stamp,made,ybk,ybst,ybse,ybsp,rs,ws,asked,rows,tk.map (·.vl),W,steps,lk,la,lv,ls,ld⟩) (hpF o 0 36)) := by
 have hd := data_lt hp
 have hh := hash_ge hp
 refine ⟨?_⟩
 rw [yw_]
 refine ⟨?_, ?_⟩
 ·intro h1
  have h1g := qb h1
  refine ⟨rfl, ?_, ?_⟩
  ·intro h2
   simp only [qo] at h2
   have h2g := qc h2
   exfalso; omega
  ·intro h3
   simp only [qo,qy] at h3
   refine ⟨(show ws.length ≤ 1000 by omega), ?_, ?_⟩
   ·intro h4
    have h4g := qb h4
    exfalso; omega
   ·intro h5
    have h5g := qc h5
    refine ⟨?_, ?_⟩
    ·intro h6
     have h6g := qb h6
     have h7 : hasB ws p = false := by have := find_lt (l := ws) (k := p) (v := true) (decide_eq_true (by omega)); exact this
     refine ⟨?_, ?_⟩
     ·intro h8
      have h8g := qb h8
      exfalso; omega
     ·intro h9
      have h9g := qc h9
      refine ⟨?_, ?_⟩
      ·intro h10
       refine ⟨(by simp only [qh,qp,List.length_nil]; omega),bd (by rw [last_at ws p hws]; omega) (by rw [last_at ws p hws]; simp only [qr,qp,List.length_nil]; omega) ?_ 2⟩
       first | (exfalso; omega) | exact LyW_mk (by simp only [beginX,commitX,readX,writeX,putT,yz,yv,h1,h3,h5,h7,h6,h9,last_set ws p v hws,cond_true,cond_false,cond_true,cond_false]; try rfl) rfl
      ·intro h11
       exact absurd (h6.symm.trans h11) (by decide)
    ·intro h12
     have h12g := qc h12
     have h13 : hasB ws p = true := by have := find_lt (l := ws) (k := p) (v := false) (decide_eq_false (by omega)); exact this
     have hfi := find_in h13
     refine ⟨?_, ?_⟩
     ·intro h14
      exact absurd (h12.symm.trans h14) (by decide)
     ·intro h15
      refine bd (show 0 ≤ findT ws p by omega) (by omega) ?_ 2
      first | (exfalso; omega) | exact LyW_mk (by simp only [beginX,commitX,readX,writeX,putT,yz,yv,h1,h3,h5,h13,h12,last_set ws p v hws,cond_true,cond_false,cond_true,cond_false]; try rfl) rfl
 ·intro h16
  have h16g := qc h16
  exfalso; omega
end Go.Proofs.YtmjjljngaefpaaaGreat

/- Tl2Two: the contracts of what is asked of an attempt. -/
import Derived.Test.YtmjjljngaefpaaaGreatJx
import Derived.Test.YtmjjljngaefpaaaGreatO0
namespace Go.Proofs.YtmjjljngaefpaaaGreat
open Go.RowKit Go.Am Go.Sy
open Go.IntKind (i64 u64)
set_option linter.unusedVariables false
theorem lXOk : CtrOk F.S (lookC lX) := lookC_ok fun p h => by
 simp only [lX,qn,qs,or_false] at h
 rcases h with rfl | rfl | rfl | rfl | rfl | rfl | rfl | rfl | rfl | rfl | rfl | rfl | rfl | rfl | rfl | rfl | rfl | rfl | rfl | rfl
 ·exact stripeOk
 ·exact threadOk
 ·exact seqOk
 ·exact clockOk
 ·exact sizeOk
 ·exact badOk
 ·exact mayOk
 ·exact hashOk
 ·exact roomOk
 ·exact freshOk
 ·exact atOk
 ·exact rowsOk
 ·exact placesOk
 ·exact bitOk
 ·exact findOk
 ·exact hasOk
 ·exact holderOk
 ·exact versionOk
 ·exact takenOk
 ·exact freeOk
theorem lROk : CtrOk F.S (lookC lR) := lookC_ok fun p h => by
 simp only [lR,qn,qs,or_false] at h
 rcases h with rfl | rfl | rfl | rfl | rfl | rfl | rfl | rfl | rfl | rfl | rfl | rfl | rfl | rfl | rfl
 ·exact inOk
 ·exact roomROk
 ·exact sizeROk
 ·exact clockROk
 ·exact seqROk
 ·exact stripeROk
 ·exact threadROk
 ·exact hashROk
 ·exact freshROk
 ·exact holderROk
 ·exact versionROk
 ·exact takenROk
 ·exact seekOk
 ·exact filtOk
 ·exact rowsROk 39
theorem lYOk : CtrOk F.S (lookC lY) := lookC_ok fun p h => by
 simp only [lY,qn] at h
 rcases h with rfl | h
 ·exact loopCtr_ok (body := b118) codOk noExt hookLow lROk Tryz.func118 rfl (by kernel_rfl) (by kernel_rfl) 71 (fun _ _ => []) (fun _ _ => 0) (by kernel_rfl)
 ·have := lROk
  have key : ∀ q : FuncId × Ctr cod,q ∈ lR → CtrOk1 F.S q.1 q.2 := fun q hq => by
   simp only [lR,qn,qs,or_false] at hq
   rcases hq with rfl | rfl | rfl | rfl | rfl | rfl | rfl | rfl | rfl | rfl | rfl | rfl | rfl | rfl | rfl
   ·exact inOk
   ·exact roomROk
   ·exact sizeROk
   ·exact clockROk
   ·exact seqROk
   ·exact stripeROk
   ·exact threadROk
   ·exact hashROk
   ·exact freshROk
   ·exact holderROk
   ·exact versionROk
   ·exact takenROk
   ·exact seekOk
   ·exact filtOk
   ·exact rowsROk 39
  exact key p h
theorem x_keep {n : Nat} (L M h : SH cod) (hL : L.length = 9) (hl : h.length = n) {j : Nat} (hj : j < n) (hf : xFoot j = false) : (L ++ h.drop 9 ++ M)[j]? = h[j]? := by
 have h9 : 9 ≤ j := by
  rcases qm j 9 with k | k
  ·have : xFoot j = true := by unfold xFoot; rwa [Nat.blt_eq]
   rw [this] at hf
   cases hf
  ·exact k
 rw [List.append_assoc,ql (by omega),qg (by rw [List.length_drop]; omega),qa1,hL,show 9 + (j - 9) = j by omega]
theorem y_keep {n : Nat} (L M h : SH cod) (hL : L.length = 7) (hl : h.length = n) (hn : 16 ≤ n) {j : Nat} (hj : j < n) (hf : yFoot j = false) : (h.take 9 ++ L ++ h.drop 16 ++ M)[j]? = h[j]? := by
 have h9 : j < 9 ∨ 16 ≤ j := by
  rcases qm j 9 with k | k
  ·exact .inl k
  ·rcases qm j 16 with k2 | k2
   ·have : yFoot j = true := by unfold yFoot; rw [qk,Nat.ble_eq,Nat.blt_eq]; exact ⟨k,k2⟩
    rw [this] at hf
    cases hf
   ·exact .inr k2
 have ht : (h.take 9).length = 9 := by rw [List.length_take]; omega
 rcases h9 with k | k
 ·rw [List.append_assoc,List.append_assoc,qg (by omega),List.getElem?_take,if_pos k]
 ·rw [List.append_assoc,ql (by simp only [qr]; omega),qg (by simp only [qr,List.length_drop]; omega),qa1]
  simp only [qr,ht,hL]
  rw [show 16 + (j - (9 + 7)) = j by omega]
theorem x_keep0 {n : Nat} (L h : SH cod) (hL : L.length = 9) (hl : h.length = n) {j : Nat} (hj : j < n) (hf : xFoot j = false) : (L ++ h.drop 9)[j]? = h[j]? := by
 have := x_keep L [] h hL hl hj hf
 rwa [List.append_nil] at this
theorem y_keep0 {n : Nat} (L h : SH cod) (hL : L.length = 7) (hl : h.length = n) (hn : 16 ≤ n) {j : Nat} (hj : j < n) (hf : yFoot j = false) : (h.take 9 ++ L ++ h.drop 16)[j]? = h[j]? := by
 have := y_keep L [] h hL hl hn hj hf
 rwa [List.append_nil] at this
theorem x_len {n : Nat} (L h : SH cod) (hL : L.length = 9) (hl : h.length = n) (hn : 9 ≤ n) : (L ++ h.drop 9).length = n := by
 rw [qr,List.length_drop]; omega
theorem y_len {n : Nat} (L h : SH cod) (hL : L.length = 7) (hl : h.length = n) (hn : 16 ≤ n) : (h.take 9 ++ L ++ h.drop 16).length = n := by
 rw [qr,qr,List.length_drop,List.length_take]; omega
theorem one_keep {D : FrD cod} {B : FrO cod D.St} (h : D.outs = [B]) (hk : ∀ (s : B.St) (h : SH cod) (j : Nat),h.length = D.n → j < D.n → D.foot j = false → (B.heap s h)[j]? = h[j]?) :
 ∀ (B : FrO cod D.St),B ∈ D.outs → ∀ (s : B.St) (h : SH cod) (j : Nat),h.length = D.n → j < D.n → D.foot j = false → (B.heap s h)[j]? = h[j]? := by
 intro A hA
 rw [h,qb1] at hA
 subst hA
 exact hk
theorem two_keep {D : FrD cod} {B B2 : FrO cod D.St} (h : D.outs = [B,B2]) (hk : ∀ (s : B.St) (h : SH cod) (j : Nat),h.length = D.n → j < D.n → D.foot j = false → (B.heap s h)[j]? = h[j]?)
 (hk2 : ∀ (s : B2.St) (h : SH cod) (j : Nat),h.length = D.n → j < D.n → D.foot j = false → (B2.heap s h)[j]? = h[j]?) :
 ∀ (B : FrO cod D.St),B ∈ D.outs → ∀ (s : B.St) (h : SH cod) (j : Nat),h.length = D.n → j < D.n → D.foot j = false → (B.heap s h)[j]? = h[j]? := by
 intro A hA
 rw [h] at hA
 rcases List.mem_cons.1 hA with rfl | hA
 ·exact hk
 ·rw [qb1] at hA
  subst hA
  exact hk2
theorem xStepFr (st : XM → XM) (I : XM → Prop) (r : Nat) : FrOk (xStepD st I r) := ⟨fun s h hl => x_len _ h rfl hl (show 9 ≤ 34 by decide),fun s h j hl hj hf => x_keep0 _ h rfl hl hj hf,two_keep rfl (fun s h j hl hj hf => x_keep _ _ h rfl hl hj hf) (fun s h j hl hj hf => x_keep _ _ h rfl hl hj hf)⟩
theorem yStepFr (st : XM → XM) (I : XM → Prop) (r : Nat) : FrOk (yStepD st I r) := ⟨fun s h hl => y_len _ h rfl hl (show 16 ≤ 37 by decide),fun s h j hl hj hf => y_keep0 _ h rfl hl (show 16 ≤ 37 by decide) hj hf,two_keep rfl (fun s h j hl hj hf => y_keep _ _ h rfl hl (show 16 ≤ 37 by decide) hj hf) (fun s h j hl hj hf => y_keep _ _ h rfl hl (show 16 ≤ 37 by decide) hj hf)⟩
theorem xStepOk : CtrOk1 F.S 18 (frCtr (xStepD stepX atX 36)) :=
 frCtr_ok codOk _ (xStepFr _ _ _) (loopCtr_ok (body := b18) codOk noExt hookLow lXOk Tryz.func18 rfl (by kernel_rfl) (by kernel_rfl) 2000 (fun _ _ => []) (fun _ _ => 0) (by kernel_rfl)) fun s hI h hl => x_paid s hI h hl
theorem yStepOk : CtrOk1 F.S 19 (frCtr (yStepD stepX atX 39)) :=
 frCtr_ok codOk _ (yStepFr _ _ _) (loopCtr_ok (body := b19) codOk noExt hookLow lYOk Tryz.func19 rfl (by kernel_rfl) (by kernel_rfl) 2000 (fun _ _ => []) (fun _ _ => 0) (by kernel_rfl)) fun s hI h hl => by
  obtain ⟨s,y⟩ := s
  obtain ⟨h1,h2⟩ := hI
  obtain rfl : y = yv s := h2
  exact y_paid s h1 h hl
def noX (s : XM) : Prop := s.job = 0 ∧ (s.life = 0 ∨ s.life = 2 ∨ s.life = 3)
def opX (s : XM) : Prop := SB s ∧ s.life = 1 ∧ s.job = 0 ∧ clear s
theorem xBegOk : CtrOk1 F.S 9 (frCtr (xBegD noX)) :=
 frCtr_ok codOk _ ⟨fun s h hl => x_len _ h rfl hl (show 9 ≤ 34 by decide),fun s h j hl hj hf => x_keep0 _ h rfl hl hj hf,one_keep rfl fun s h j hl hj hf => x_keep0 _ h rfl hl hj hf⟩
  (loopCtr_ok (body := b9) codOk noExt hookLow lXOk Tryz.func9 rfl (by kernel_rfl) (by kernel_rfl) 2000 (fun _ _ => []) (fun _ _ => 0) (by kernel_rfl)) fun s hI h hl => by
   show Paid (vcC (cX Tryz.f9 b9) (xBegD noX) s h)
   obtain ⟨h1,h2⟩ := hI
   obtain ⟨o,rfl⟩ := hpE (i := 0) hl
   obtain ⟨code,th,c,life,job,part,i,at_,row,seen,val,value,cause,stamp,made,bk,bst,bse,bsp,ph,rs,ws,asked,rows,tk,W,steps,lk,la,lv,ls,ld,ybk,ybst,ybse,ybsp⟩ := s
   obtain rfl : job = 0 := h1
   rcases h2 with e | e | e
   ·obtain rfl : life = 0 := e
    apply xb_0ok
   ·obtain rfl : life = 2 := e
    apply xb_2ok
   ·obtain rfl : life = 3 := e
    apply xb_3ok
theorem xComOk : CtrOk1 F.S 11 (frCtr (xComD opX)) :=
 frCtr_ok codOk _ ⟨fun s h hl => x_len _ h rfl hl (show 9 ≤ 34 by decide),fun s h j hl hj hf => x_keep0 _ h rfl hl hj hf,one_keep rfl fun s h j hl hj hf => x_keep0 _ h rfl hl hj hf⟩
  (loopCtr_ok (body := b11) codOk noExt hookLow lXOk Tryz.func11 rfl (by kernel_rfl) (by kernel_rfl) 2000 (fun _ _ => []) (fun _ _ => 0) (by kernel_rfl)) fun s hI h hl => by
   show Paid (vcC (cX Tryz.f11 b11) (xComD opX) s h)
   obtain ⟨_,h1,h2,_⟩ := hI
   obtain ⟨o,rfl⟩ := hpE (i := 0) hl
   obtain ⟨code,th,c,life,job,part,i,at_,row,seen,val,value,cause,stamp,made,bk,bst,bse,bsp,ph,rs,ws,asked,rows,tk,W,steps,lk,la,lv,ls,ld,ybk,ybst,ybse,ybsp⟩ := s
   obtain rfl : life = 1 := h1
   obtain rfl : job = 0 := h2
   apply xc_ok
theorem xReadOk : CtrOk1 F.S 14 (frCtr (xReadD fun q => opX q.1 ∧ isData q.2)) :=
 frCtr_ok codOk _ ⟨fun s h hl => x_len _ h rfl hl (show 9 ≤ 35 by decide),fun s h j hl hj hf => x_keep0 _ h rfl hl hj hf,one_keep rfl fun s h j hl hj hf => x_keep0 _ h rfl hl hj hf⟩
  (loopCtr_ok (body := b14) codOk noExt hookLow lXOk Tryz.func14 rfl (by kernel_rfl) (by kernel_rfl) 2000 (fun _ _ => []) (fun _ _ => 0) (by kernel_rfl)) fun s hI h hl => by
   show Paid (vcC (cX Tryz.f14 b14) (xReadD fun q => opX q.1 ∧ isData q.2) s h)
   obtain ⟨s,p⟩ := s
   obtain ⟨⟨hS,h1,h2,h3,h4,h5⟩,hp⟩ := hI
   have w4 := hS.ws4
   have r9 : s.rs.length ≤ 9 := Nat.le_trans hS.rs3 (by decide)
   obtain ⟨o,rfl⟩ := hpE (i := 0) hl
   obtain ⟨code,th,c,life,job,part,i,at_,row,seen,val,value,cause,stamp,made,bk,bst,bse,bsp,ph,rs,ws,asked,rows,tk,W,steps,lk,la,lv,ls,ld,ybk,ybst,ybse,ybsp⟩ := s
   obtain rfl : life = 1 := h1
   obtain rfl : job = 0 := h2
   obtain rfl : ph = false := h3
   obtain rfl : tk = [] := h4
   apply xr_ok
   ·exact hp
   ·rfl
   ·exact r9
   ·exact w4
theorem xWrtOk : CtrOk1 F.S 16 (frCtr (xWrtD fun q => opX q.1 ∧ isData q.2.1)) :=
 frCtr_ok codOk _ ⟨fun s h hl => x_len _ h rfl hl (show 9 ≤ 35 by decide),fun s h j hl hj hf => x_keep0 _ h rfl hl hj hf,one_keep rfl fun s h j hl hj hf => x_keep _ _ h rfl hl hj hf⟩
  (loopCtr_ok (body := b16) codOk noExt hookLow lXOk Tryz.func16 rfl (by kernel_rfl) (by kernel_rfl) 2000 (fun _ _ => []) (fun _ _ => 0) (by kernel_rfl)) fun s hI h hl => by
   show Paid (vcC (cX Tryz.f16 b16) (xWrtD fun q => opX q.1 ∧ isData q.2.1) s h)
   obtain ⟨s,p,v⟩ := s
   obtain ⟨⟨hS,h1,h2,h3,h4,h5⟩,hp⟩ := hI
   have w4 := hS.ws4
   obtain ⟨o,rfl⟩ := hpE (i := 0) hl
   obtain ⟨code,th,c,life,job,part,i,at_,row,seen,val,value,cause,stamp,made,bk,bst,bse,bsp,ph,rs,ws,asked,rows,tk,W,steps,lk,la,lv,ls,ld,ybk,ybst,ybse,ybsp⟩ := s
   obtain rfl : life = 1 := h1
   obtain rfl : job = 0 := h2
   obtain rfl : ph = false := h3
   obtain rfl : tk = [] := h4
   apply xw_ok
   ·exact hp
   ·rfl
   ·exact w4
theorem yBegOk : CtrOk1 F.S 10 (frCtr (yBegD noX)) :=
 frCtr_ok codOk _ ⟨fun s h hl => y_len _ h rfl hl (show 16 ≤ 34 by decide),fun s h j hl hj hf => y_keep0 _ h rfl hl (show 16 ≤ 34 by decide) hj hf,one_keep rfl fun s h j hl hj hf => y_keep0 _ h rfl hl (show 16 ≤ 34 by decide) hj hf⟩
  (loopCtr_ok (body := b10) codOk noExt hookLow lROk Tryz.func10 rfl (by kernel_rfl) (by kernel_rfl) 2000 (fun _ _ => []) (fun _ _ => 0) (by kernel_rfl)) fun s hI h hl => by
   show Paid (vcC (cY Tryz.f10 b10) (yBegD noX) s h)
   obtain ⟨s,z,k,y⟩ := s
   obtain ⟨⟨h1,h2⟩,h4⟩ := hI
   obtain rfl : y = yz s z k := h4
   obtain ⟨o,rfl⟩ := hpE (i := 0) hl
   obtain ⟨code,th,c,life,job,part,i,at_,row,seen,val,value,cause,stamp,made,bk,bst,bse,bsp,ph,rs,ws,asked,rows,tk,W,steps,lk,la,lv,ls,ld,ybk,ybst,ybse,ybsp⟩ := s
   obtain rfl : job = 0 := h1
   rcases h2 with e | e | e
   ·obtain rfl : life = 0 := e
    apply yb_ok
   ·obtain rfl : life = 2 := e
    apply yb_ok
   ·obtain rfl : life = 3 := e
    apply yb_ok
theorem yComOk : CtrOk1 F.S 12 (frCtr (yComD opX)) :=
 frCtr_ok codOk _ ⟨fun s h hl => y_len _ h rfl hl (show 16 ≤ 34 by decide),fun s h j hl hj hf => y_keep0 _ h rfl hl (show 16 ≤ 34 by decide) hj hf,one_keep rfl fun s h j hl hj hf => y_keep0 _ h rfl hl (show 16 ≤ 34 by decide) hj hf⟩
  (loopCtr_ok (body := b12) codOk noExt hookLow lROk Tryz.func12 rfl (by kernel_rfl) (by kernel_rfl) 2000 (fun _ _ => []) (fun _ _ => 0) (by kernel_rfl)) fun s hI h hl => by
   show Paid (vcC (cY Tryz.f12 b12) (yComD opX) s h)
   obtain ⟨s,z,k,y⟩ := s
   obtain ⟨⟨hS,h1,h2,h3,h5⟩,h4⟩ := hI
   obtain rfl : y = yz s z k := h4
   obtain ⟨o,rfl⟩ := hpE (i := 0) hl
   obtain ⟨code,th,c,life,job,part,i,at_,row,seen,val,value,cause,stamp,made,bk,bst,bse,bsp,ph,rs,ws,asked,rows,tk,W,steps,lk,la,lv,ls,ld,ybk,ybst,ybse,ybsp⟩ := s
   obtain rfl : life = 1 := h1
   obtain rfl : job = 0 := h2
   obtain rfl : ph = false := h3
   apply yc_ok
theorem yReadOk : CtrOk1 F.S 15 (frCtr (yReadD fun q => opX q.1 ∧ isData q.2)) :=
 frCtr_ok codOk _ ⟨fun s h hl => y_len _ h rfl hl (show 16 ≤ 35 by decide),fun s h j hl hj hf => y_keep0 _ h rfl hl (show 16 ≤ 35 by decide) hj hf,one_keep rfl fun s h j hl hj hf => y_keep0 _ h rfl hl (show 16 ≤ 35 by decide) hj hf⟩
  (loopCtr_ok (body := b15) codOk noExt hookLow lROk Tryz.func15 rfl (by kernel_rfl) (by kernel_rfl) 2000 (fun _ _ => []) (fun _ _ => 0) (by kernel_rfl)) fun s hI h hl => by
   show Paid (vcC (cY Tryz.f15 b15) (yReadD fun q => opX q.1 ∧ isData q.2) s h)
   obtain ⟨s,p,z,k,y⟩ := s
   obtain ⟨⟨⟨hS,h1,h2,h3,h4,h5⟩,hp⟩,h6⟩ := hI
   obtain rfl : y = yz s z k := h6
   have w4 := hS.ws4
   have r9 : s.rs.length ≤ 9 := Nat.le_trans hS.rs3 (by decide)
   obtain ⟨o,rfl⟩ := hpE (i := 0) hl
   obtain ⟨code,th,c,life,job,part,i,at_,row,seen,val,value,cause,stamp,made,bk,bst,bse,bsp,ph,rs,ws,asked,rows,tk,W,steps,lk,la,lv,ls,ld,ybk,ybst,ybse,ybsp⟩ := s
   obtain rfl : life = 1 := h1
   obtain rfl : job = 0 := h2
   obtain rfl : ph = false := h3
   obtain rfl : tk = [] := h4
   apply yr_ok
   ·exact hp
   ·rfl
   ·exact r9
   ·exact w4
   ·exact hS.wd
theorem yWrtOk : CtrOk1 F.S 17 (frCtr (yWrtD fun q => opX q.1 ∧ isData q.2.1)) :=
 frCtr_ok codOk _ ⟨fun s h hl => y_len _ h rfl hl (show 16 ≤ 36 by decide),fun s h j hl hj hf => y_keep0 _ h rfl hl (show 16 ≤ 36 by decide) hj hf,one_keep rfl fun s h j hl hj hf => y_keep _ _ h rfl hl (show 16 ≤ 36 by decide) hj hf⟩
  (loopCtr_ok (body := b17) codOk noExt hookLow lROk Tryz.func17 rfl (by kernel_rfl) (by kernel_rfl) 2000 (fun _ _ => []) (fun _ _ => 0) (by kernel_rfl)) fun s hI h hl => by
   show Paid (vcC (cY Tryz.f17 b17) (yWrtD fun q => opX q.1 ∧ isData q.2.1) s h)
   obtain ⟨s,p,v,z,k,y⟩ := s
   obtain ⟨⟨⟨hS,h1,h2,h3,h4,h5⟩,hp⟩,h6⟩ := hI
   obtain rfl : y = yz s z k := h6
   have w4 := hS.ws4
   obtain ⟨o,rfl⟩ := hpE (i := 0) hl
   obtain ⟨code,th,c,life,job,part,i,at_,row,seen,val,value,cause,stamp,made,bk,bst,bse,bsp,ph,rs,ws,asked,rows,tk,W,steps,lk,la,lv,ls,ld,ybk,ybst,ybse,ybsp⟩ := s
   obtain rfl : life = 1 := h1
   obtain rfl : job = 0 := h2
   obtain rfl : ph = false := h3
   obtain rfl : tk = [] := h4
   apply yw_ok
   ·exact hp
   ·rfl
   ·exact w4
end Go.Proofs.YtmjjljngaefpaaaGreat

/- A pick of a run: its contract is sound: each state of it. Printed by a program (gen_nh.py). -/
import Derived.Test.YtmjjljngaefpaaaNd
namespace Go.Proofs.Ytmjjljngaefpaaa
open Go.RowKit Go.Am Go.Sy
open Go.IntKind (i64 u64)
set_option linter.unusedVariables false
theorem nextLOk {l : List (FuncId × Ctr cod)} (h : CtrOk F.S (lookC l)) : CtrOk1 F.S 12 (nextL l) :=
 loopCtr_ok (body := b12n) codOk noExt hookLow h Try.func12 rfl (by kernel_rfl) (by kernel_rfl) 2000 (fun _ _ => []) (fun _ _ => 0) (by kernel_rfl)
def LOk (l : List (FuncId × Ctr cod)) : Prop := ∀ p,p ∈ l → CtrOk1 F.S p.1 p.2
theorem LOk.app {a b : List (FuncId × Ctr cod)} (h : LOk a) (k : LOk b) : LOk (a ++ b) := fun p hp => (List.mem_append.1 hp).elim (h p) (k p)
theorem LOk.cons {p : FuncId × Ctr cod} {b : List (FuncId × Ctr cod)} (h : CtrOk1 F.S p.1 p.2) (k : LOk b) : LOk (p :: b) := fun q hq => (List.mem_cons.1 hq).elim (fun e => e ▸ h) (k q)
theorem LOk.nil : LOk [] := fun p hp => by cases hp
theorem noLOk (l : List FuncId) : LOk (noL l) := fun p hp => by
 obtain ⟨f,_,rfl⟩ := List.mem_map.1 hp
 exact noCtr_ok
theorem lXL : LOk lX := fun p h => by
 simp only [lX,List.mem_cons,List.not_mem_nil,or_false] at h
 rcases h with rfl | rfl | rfl | rfl | rfl | rfl | rfl | rfl | rfl | rfl | rfl | rfl | rfl | rfl | rfl | rfl | rfl | rfl | rfl | rfl
 ·exact stripeOk
 ·exact threadOk
 ·exact seqOk
 ·exact clockOk
 ·exact sizeOk
 ·exact badOk
 ·exact mayOk
 ·exact hashOk
 ·exact roomOk
 ·exact freshOk
 ·exact atOk
 ·exact rowsOk
 ·exact placesOk
 ·exact bitOk
 ·exact findOk
 ·exact hasOk
 ·exact holderOk
 ·exact versionOk
 ·exact takenOk
 ·exact freeOk
theorem lLitL : LOk lLit := .cons (litCtr_ok _ findOk) (.cons (litCtr_ok _ roomOk) (.cons (litCtr_ok _ sizeOk) (.cons lenOk .nil)))
theorem stCOk : CtrOk1 F.S 15 stC.2 := padCtr_ok 60 (xStepOk nAsk)
theorem lNbOk : CtrOk F.S (lookC lNb) := lookC_ok (LOk.cons stCOk lXL)
theorem lNiOk : CtrOk F.S (lookC lNi) := lookC_ok (LOk.cons stCOk ((((noLOk _).app (.cons dataOk .nil)).app lLitL).app lXL))
theorem lNnOk : CtrOk F.S (lookC lNn) := lookC_ok (((noLOk _).app lLitL).app lXL)
theorem lNcOk : CtrOk F.S (lookC lNc) := lookC_ok (((noLOk _).app lLitL).app lXL)
theorem inLOk {l : List (FuncId × Ctr cod)} (h : LOk l) {f : FuncId} {fn : Func} (hf : F.S.P.funcs[f]? = some fn) (hb : fn.body = some (fn.body.getD .skip)) (hk : F.S.hook f = none) (hp : F.S.pol f = .keep) (hn : nodupB ((allK (fn.body.getD .skip) []).map (·.1)) = true) : CtrOk1 F.S f (inL l fn) :=
 loopCtr_ok codOk noExt hookLow (lookC_ok h) hf hb hk hp 2000 (fun _ _ => []) (fun _ _ => 0) hn
theorem lNwOk : CtrOk F.S (lookC lNw) := lookC_ok ((((noLOk _).app (.cons dataOk (.cons valueOk (.cons (lenCtr_ok _ _ (inLOk (((noLOk _).app lLitL).app lXL) Try.func67 rfl (by kernel_rfl) (by kernel_rfl) (by kernel_rfl))) (.cons (lenCtr_ok _ _ (inLOk lXL Try.func33 rfl (by kernel_rfl) (by kernel_rfl) (by kernel_rfl))) .nil))))).app lLitL).app lXL)
theorem n_11 {j : Nat} (hf : nFoot j = false) : 11 ≤ j := by
 rcases Nat.lt_or_ge j 11 with k | k
 ·have : nFoot j = true := by unfold nFoot; rwa [Nat.blt_eq]
  rw [this] at hf
  cases hf
 ·exact k
theorem n_keep (L M h : SH cod) (hL : L.length = 11) (hl : h.length = 33) {j : Nat} (hj : j < 33) (hf : nFoot j = false) : (L ++ h.drop 11 ++ M)[j]? = h[j]? := by
 have h9 := n_11 hf
 rw [List.append_assoc,List.getElem?_append_right (by omega),List.getElem?_append_left (by rw [List.length_drop]; omega),List.getElem?_drop,hL,show 11 + (j - 11) = j by omega]
theorem n_keep0 (L h : SH cod) (hL : L.length = 11) (hl : h.length = 33) {j : Nat} (hf : nFoot j = false) : (L ++ h.drop 11)[j]? = h[j]? := by
 have h9 := n_11 hf
 rw [List.getElem?_append_right (by omega),List.getElem?_drop,hL,show 11 + (j - 11) = j by omega]
theorem nextFr : FrOk nextD where
 len := fun s h hl => by
  show (nInP (planL s) s h).length = 33
  unfold nInP
  rw [List.length_append,List.length_drop]
  have : h.length = 33 := hl
  simp only [List.length_cons,List.length_nil]
  omega
 ahead := fun s h j hl hj hf => n_keep0 _ h rfl hl hf
 behind := fun B hB s h j hl hj hf => by
  rcases List.mem_cons.1 hB with rfl | hB
  ·exact n_keep _ _ h rfl hl hj hf
  rcases List.mem_cons.1 hB with rfl | hB
  ·exact n_keep _ _ h rfl hl hj hf
  rcases List.mem_cons.1 hB with rfl | hB
  ·exact n_keep _ _ h rfl hl hj hf
  cases hB
def OwedN (l : List (FuncId × Ctr cod)) (R : RM) (h : SH cod) : Prop := Paid (nextL l 0 nArgs (nInP (planL R) R h) (frFin nextD R h))
variable (o : Nat → Option Ob)
theorem owed_over (R : RM) (he : R.end_ = 1 ∨ R.end_ = 2) : OwedN lX R (hpF o 0 33) := by
 have hn : nextR R = R := by unfold nextR; rw [if_neg (by omega)]
 obtain ⟨X,mv,f,g,m,i,b,e,rd⟩ := R
 rcases he with rfl | rfl
 ·refine ⟨?_⟩
  rw [show nInP (planL ⟨X,mv,f,g,m,i,b,1,rd⟩) ⟨X,mv,f,g,m,i,b,1,rd⟩ (hpF o 0 33) = nInP (planL ⟨X,mv,f,g,m,i,b,1,rd⟩) { (⟨X,mv,f,g,m,i,b,1,rd⟩ : RM) with end_ := 1 } (hpF o 0 33) from rfl,no1,fO]
  exact ⟨_,rQ_of hn (by rw [hn]) rfl rfl (oE_mk ⟨rfl,trivial⟩ _)⟩
 ·refine ⟨?_⟩
  rw [show nInP (planL ⟨X,mv,f,g,m,i,b,2,rd⟩) ⟨X,mv,f,g,m,i,b,2,rd⟩ (hpF o 0 33) = nInP (planL ⟨X,mv,f,g,m,i,b,2,rd⟩) { (⟨X,mv,f,g,m,i,b,2,rd⟩ : RM) with end_ := 2 } (hpF o 0 33) from rfl,no2,fO]
  exact ⟨_,rQ_of hn (by rw [hn]) rfl rfl (oE_mk ⟨rfl,trivial⟩ _)⟩
theorem owed_busy (hl : ∀ w,w ∈ ((hpF o 11 22) : SH cod).reverse → ltOO 60 w = true) (R : RM) (he : R.end_ = 0) (hb : R.busy = true) (h0 : 0 < R.i) (h5 : R.i ≤ 5) (hg : goX' R.X) (hk : (stepX R.X).code = 1 → R.i ≤ 4 → pRd R = true ∧ R.rd.length ≤ 4) : OwedN lNb R (hpF o 0 33) := by
 have hn := next_b he hb
 have ha := aft_ok (K := (frFin nextD R (hpF o 0 33))) (os := (hpF o 11 22)) (n := 1) (fun y p i b e rd t => fS1 R y p i b e rd t o) (fun y p i b e rd x => fA1 R y p i b e rd x o) hn he hb h0 h5 hk
 obtain ⟨X,mv,f,g,m,i,b,e,rd⟩ := R
 obtain rfl : b = true := hb
 obtain rfl : e = 0 := he
 refine ⟨?_⟩
 rw [show nInP (planL ⟨X,mv,f,g,m,i,true,0,rd⟩) ⟨X,mv,f,g,m,i,true,0,rd⟩ (hpF o 0 33) = nInP (planL ⟨X,mv,f,g,m,i,true,0,rd⟩) (rmP X i true rd) (hpF o 0 33) from rfl,nb]
 refine lowN_mk ⟨X,xQ_mk X ⟨hg,fun y hy => ?_,trivial⟩⟩ hl
 rw [hy.1]
 exact ha
theorem owed_read (hl : ∀ w,w ∈ ((hpF o 11 22) : SH cod).reverse → ltOO 60 w = true) (R : RM) (he : R.end_ = 0) (hb : R.busy = false) (h0 : 0 < R.i) (h4 : R.i ≤ 4) (hp : pRd R = true) (ho : opX R.X) (hw : R.X.ws = []) (hd : isData (26 + 2 * pAt R)) (hg : goX' (readX (26 + 2 * pAt R) R.X)) (hr : R.rd.length ≤ 4) : OwedN lNi R (hpF o 0 33) := by
 have ask : askL R = { R with X := readX (26 + 2 * pAt R) R.X,busy := true } := by unfold askL; rw [if_neg (by rw [hb]; decide),if_neg (by omega),if_pos hp]
 have hn : nextR R = stepR { R with X := readX (26 + 2 * pAt R) R.X,busy := true } := by unfold nextR; rw [if_pos he,ask]
 have ha := aft_ok (K := (frFin nextD R (hpF o 0 33))) (os := (hpF o 11 22)) (n := 2) (Rk := { R with X := readX (26 + 2 * pAt R) R.X,busy := true }) (fun y p i b e rd t => fS2 R y p i b e rd t o) (fun y p i b e rd x => fA2 R y p i b e rd x o) hn he rfl h0 (by show R.i ≤ 5; omega) (fun _ _ => ⟨hp,hr⟩)
 have e2 : readX (26 + 2 * pAt R) R.X = { R.X with at_ := 26 + 2 * pAt R,row := hashT (26 + 2 * pAt R),job := 2,part := 0,i := 0,code := 0 } := by
  unfold readX
  rw [show hasB R.X.ws (26 + 2 * pAt R) = false by rw [hw]; rfl]
  rfl
 obtain ⟨k1,k2⟩ := kd_at R h0 h4
 have k2 := k2 hp
 have hrb : rdB R.X (26 + 2 * pAt R) = true := by
  unfold rdB
  rw [filt_bit _ _ hd,hw]
  rfl
 have pd : 0 ≤ pAt R ∧ pAt R < 4 := by rcases hd with h | h | h | h <;> omega
 have hin : inP R.i (planL R) := by unfold inP; rw [i1_eq h0 (by omega),plan_len]; omega
 have pl := plan_len R
 have rs := ho.1.rs3
 generalize hq : pAt R = q at *
 obtain ⟨X,mv,f,g,m,i,b,e,rd⟩ := R
 obtain rfl : b = false := hb
 obtain rfl : e = 0 := he
 obtain ⟨s1,s2,s3,s4,s5,s6⟩ := ho
 have rs : X.rs.length ≤ 3 := rs
 have hX : X = { X with life := 1,job := 0,ph := false } := by
  obtain ⟨code,th,c,life,job,part,i,at_,row,seen,val,value,cause,stamp,made,bk,bst,bse,bsp,ph,rs,ws,asked,rows,tk,W,steps,lk,la,lv,ls,ld,ybk,ybst,ybse,ybsp⟩ := X
  obtain rfl : life = 1 := s2
  obtain rfl : job = 0 := s3
  obtain rfl : ph = false := s4
  rfl
 have ini : iniQ (frFin nextD (⟨X,mv,f,g,m,i,false,0,rd⟩ : RM) (hpF o 0 33)) (planL ⟨X,mv,f,g,m,i,false,0,rd⟩) i rd (hpF o 11 22) X (26 + 2 * q) := by
  refine ⟨⟨rfl,hd⟩,fun h => absurd (of_decide_eq_true h) (by have := (hash_ge hd).1; omega),fun _ => ⟨⟨rfl,by show X.rs.length < 32; omega⟩,rfl, ?_⟩⟩
  refine lowN_mk ⟨{ X with at_ := 26 + 2 * q,row := hashT (26 + 2 * q),job := 2,part := 0,i := 0,code := 0 },xQ_mk { X with at_ := 26 + 2 * q,row := hashT (26 + 2 * q),job := 2,part := 0,i := 0,code := 0 } ⟨?_,fun y hy => ?_,trivial⟩⟩ hl
  ·rw [← e2]
   exact hg
  ·rw [hy.1,← e2]
   exact ha
 refine ⟨?_⟩
 rw [show nInP (planL ⟨X,mv,f,g,m,i,false,0,rd⟩) ⟨X,mv,f,g,m,i,false,0,rd⟩ (hpF o 0 33) = nInP (planL ⟨X,mv,f,g,m,i,false,0,rd⟩) (rmP { X with life := 1,job := 0,ph := false } i false rd) (hpF o 0 33) from by rw [← hX]; rfl,ni,← hX]
 refine ⟨fun h => absurd (eq_of_beq h) (by have h0 : 0 < i := h0; omega),fun _ => ⟨fun h => absurd (of_decide_eq_true h) (by have h4 : i ≤ 4 := h4; rw [pl]; omega),fun _ => ⟨hin,fun _ => ⟨hin, ?_⟩,fun h => ?_⟩⟩⟩
 ·have k2 : (at2 (planL ⟨X,mv,f,g,m,i,false,0,rd⟩) (i1 i)).pl = q := k2
  rw [k2]
  exact ⟨⟨rfl,pd.1,pd.2⟩,fun h => absurd (of_decide_eq_true h) (by omega),fun _ => ⟨hd,fun _ => ini,fun h => by have hrb : rdB X (26 + 2 * q) = true := hrb; rw [hrb] at h; cases h⟩⟩
 ·have k1 : ((at2 (planL ⟨X,mv,f,g,m,i,false,0,rd⟩) (i1 i)).kd == 0) = pRd ⟨X,mv,f,g,m,i,false,0,rd⟩ := k1
  rw [k1,hp] at h
  cases h
theorem split_op {X : XM} (s2 : X.life = 1) (s3 : X.job = 0) (s4 : X.ph = false) : X = { X with life := 1,job := 0,ph := false } := by
 obtain ⟨code,th,c,life,job,part,i,at_,row,seen,val,value,cause,stamp,made,bk,bst,bse,bsp,ph,rs,ws,asked,rows,tk,W,steps,lk,la,lv,ls,ld,ybk,ybst,ybse,ybsp⟩ := X
 obtain rfl : life = 1 := s2
 obtain rfl : job = 0 := s3
 obtain rfl : ph = false := s4
 rfl
theorem owed_new (R : RM) (he : R.end_ = 0) (hb : R.busy = false) (h0 : R.i = 0) (hl : R.X.life = 0) (hj : R.X.job = 0) (hW : R.X.W.length = 34) : OwedN lNn R (hpF o 0 33) := by
 have ask : askL R = { R with X := beginX R.X,busy := true } := by unfold askL; rw [if_neg (by rw [hb]; decide),if_pos h0]
 have hn : nextR R = stepR { R with X := beginX R.X,busy := true } := by unfold nextR; rw [if_pos he,ask]
 have hc : (stepX (beginX R.X)).code = 1 := by unfold stepX; rw [if_pos (show (beginX R.X).job = 1 from rfl)]
 have hx : stepX (beginX R.X) = { ldX 0 (beginX R.X) with stamp := at0 R.X.W 0,job := 0,code := 1 } := by unfold stepX; rw [if_pos (show (beginX R.X).job = 1 from rfl)]; rfl
 have hn : nextR R = { R with X := { ldX 0 (beginX R.X) with stamp := at0 R.X.W 0,job := 0,code := 1 },busy := false,i := 1 } := by
  rw [hn,stepR_1 hc,← hx]
  unfold doneR
  rw [if_neg (by show ¬ 4 < R.i; omega),if_neg (by show ¬ 0 < R.i; omega)]
  show ({ R with X := stepX (beginX R.X),busy := false,i := R.i + 1 } : RM) = _
  rw [h0]
 have pl := plan_len R
 obtain ⟨X,mv,f,g,m,i,b,e,rd⟩ := R
 obtain rfl : b = false := hb
 obtain rfl : e = 0 := he
 obtain rfl : i = 0 := h0
 have hX : X = { X with life := 0,job := 0 } := by
  obtain ⟨code,th,c,life,job,part,i,at_,row,seen,val,value,cause,stamp,made,bk,bst,bse,bsp,ph,rs,ws,asked,rows,tk,W,steps,lk,la,lv,ls,ld,ybk,ybst,ybse,ybsp⟩ := X
  obtain rfl : life = 0 := hl
  obtain rfl : job = 0 := hj
  rfl
 refine ⟨?_⟩
 rw [show nInP (planL ⟨X,mv,f,g,m,0,false,0,rd⟩) ⟨X,mv,f,g,m,0,false,0,rd⟩ (hpF o 0 33) = nInP (planL ⟨X,mv,f,g,m,0,false,0,rd⟩) (rmP { X with life := 0,job := 0 } 0 false rd) (hpF o 0 33) from by rw [← hX]; rfl,nn]
 have hW : X.W.length = 34 := hW
 refine ⟨fun _ => ⟨hW,rfl,rfl,rfl,⟨Int.le_refl _,by show (0 : Int) < (X.W.length : Int); omega⟩,⟨Int.le_refl _,by omega⟩,⟨Int.le_refl _,by omega⟩,fun h => absurd (of_decide_eq_true h) (by omega),fun _ => ⟨fun h => absurd (of_decide_eq_true h) (by decide),fun _ => ?_⟩⟩,fun h => absurd (show (((0 : Nat) : Int) == 0) = true from rfl) (by rw [h]; decide)⟩
 rw [fB]
 refine ⟨nextR ⟨X,mv,f,g,m,0,false,0,rd⟩, ?_⟩
 rw [hn]
 exact ⟨rfl,rfl,rfl,rfl,rfl,rfl,rfl,rfl,rfl,rfl,rfl,rfl,rfl,rfl,rfl,rfl,rfl,rfl,rfl,rfl,rfl,rfl,rfl,rfl,rfl,rfl,rfl,rfl,rfl,rfl,rfl,rfl,rfl,rfl,rfl,rfl,rfl,rfl,rfl,rfl,rfl,rfl,rfl,rfl,rfl,rfl,oE_mk ⟨⟨hn.symm,rfl,rfl,rfl,rfl,rfl⟩,trivial⟩ _⟩
end Go.Proofs.Ytmjjljngaefpaaa

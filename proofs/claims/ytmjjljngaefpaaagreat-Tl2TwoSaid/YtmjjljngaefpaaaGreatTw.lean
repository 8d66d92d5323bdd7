/- Tl2Two: the law: two attempts of each side, access by access: its cuts. -/
import Derived.Test.YtmjjljngaefpaaaGreatJo
import Derived.Test.YtmjjljngaefpaaaGreatLm
namespace Go.Proofs.YtmjjljngaefpaaaGreat
open Go.RowKit Go.Am Go.Sy
open Go.IntKind (i64 u64)
set_option linter.unusedVariables false
theorem lkFr (I : XM → Prop) : FrOk (lkD I) where
 len := fun s h hl => by
  have hl : h.length = 34 := hl
  show (lkIn s.1 s.2.2.2 h).length = 34
  unfold lkIn
  rw [qr,List.length_drop,hl]
  rfl
 ahead := fun s h j hl hj hf => by
  have hl : h.length = 34 := hl
  have hj : j < 34 := hj
  have h9 : 16 ≤ j := by
   rcases qm j 16 with k | k
   ·have : lkFoot j = true := by unfold lkFoot; rwa [Nat.blt_eq]
    have hf : lkFoot j = false := hf
    rw [this] at hf
    cases hf
   ·exact k
  show (lkIn s.1 s.2.2.2 h)[j]? = h[j]?
  unfold lkIn
  rw [ql (by exact h9),qa1,show 16 + (j - _) = j from by simp only [qp,List.length_nil]; omega]
 behind := one_keep rfl fun s h j hl hj hf => by
  have hl : h.length = 34 := hl
  have hj : j < 34 := hj
  have h9 : 16 ≤ j := by
   rcases qm j 16 with k | k
   ·have : lkFoot j = true := by unfold lkFoot; rwa [Nat.blt_eq]
    have hf : lkFoot j = false := hf
    rw [this] at hf
    cases hf
   ·exact k
  show (lkIn s.1 s.2 h)[j]? = h[j]?
  unfold lkIn
  rw [ql (by exact h9),qa1,show 16 + (j - _) = j from by simp only [qp,List.length_nil]; omega]
theorem lkOk : CtrOk1 F.S 21 (frCtr (lkD SB)) :=
 frCtr_ok codOk _ (lkFr _) (loopCtr_ok (body := b21) codOk noExt hookLow lKOk Tryz.func21 rfl (by kernel_rfl) (by kernel_rfl) 146 (fun _ _ => []) (fun _ _ => 0) (by kernel_rfl)) fun s hI h hl => by
  show Paid (vcC cK (lkD SB) s h)
  obtain ⟨s,z,k,y⟩ := s
  obtain ⟨hS,h4⟩ := hI
  obtain rfl : y = yz s z k := h4
  have w4 := hS.ws4
  have r3 := hS.rs3
  obtain ⟨o,rfl⟩ := hpE (i := 0) hl
  obtain ⟨code,th,c,life,job,part,i,at_,row,seen,val,value,cause,stamp,made,bk,bst,bse,bsp,ph,rs,ws,asked,rows,tk,W,steps,lk,la,lv,ls,ld,ybk,ybst,ybse,ybsp⟩ := s
  apply lk_ok
  ·exact r3
  ·exact w4
structure LS where
 i : Nat
 S : XM
 z : Int
 k : Nat
 O : XM
 zo : Int
 ko : Nat
 aS : Int
 bS : Int
 aO : Int
 bO : Int
def xTxB (s : XM) : Ob := .cells [li 3,li 1,li 3,li 0,li 4,iv s.th,iv s.c,li 1000,.ptr 17 0,.ptr 18 0,ln,li s.life,li s.job,li s.part,iv (s.i : Int),iv s.at_,iv s.row,iv s.seen,iv s.val,.any,iv s.value,iv s.cause,iv s.stamp,iv s.made,li s.bk,li s.bst,iv s.bse,iv s.bsp,.R 21,.R 22,lb s.ph]
def yTxB (s : YM) : Ob := .cells [li 3,li 1,li 3,li 0,li 4,lb false,iv s.th,iv s.c,li 1000,li 32,.R 24,li 32,iv s.asked,.R 25,ln,lb s.al,lb s.su,lb s.ph,lb false,li s.job,li s.st,iv (s.i : Int),li 0,li 0,iv s.at_,iv s.val,iv s.seen,li 0,iv s.value,iv s.stamp,iv s.made,iv s.cause,.R 26,.R 27,li s.ybk,li s.ybst,iv s.ybse,iv s.ybsp]
def two {α : Type} (t : Bool) (a b : α) : List α := bif t then [b,a] else [a,b]
def kO (t : Bool) (P : List (List Op)) (x : LS) : List Ob :=
 [xTx ⟨3,5,6⟩ x.S,xRs ⟨3,5,6⟩,xWs x.S,.rows 3 x.S.rs false 3,.rows 3 x.S.ws false 4,.rows 0 x.S.rows false 5,.rows 3 x.S.tk false 6,xMem x.S,.rows 0 x.S.W false 8,
  yTx ⟨10,12,13⟩ (yz x.S x.z x.k),.rows 3 x.S.rs false 10,.rows 3 x.S.ws false 11,.rows 0 x.S.rows false 12,.rows 0 (x.S.tk.map (·.vl)) false 13,yMem (yz x.S x.z x.k),.rows 0 x.S.W false 15,
  xTxB x.O,.cells [li 32,.R 19],.cells [li 32,.R 20,.i .u64 (filtT x.O.ws),iv x.O.asked],.rows 3 x.O.rs false 19,.rows 3 x.O.ws false 20,.rows 0 x.O.rows false 21,.rows 3 x.O.tk false 22,
  yTxB (yz x.O x.zo x.ko),.rows 3 x.O.rs false 24,.rows 3 x.O.ws false 25,.rows 0 x.O.rows false 26,.rows 0 (x.O.tk.map (·.vl)) false 27,
  .cells [li 3,li 1,li 3,li 0,li 4],.cells (two t (.ptr 0 0) (.ptr 16 0)),.cells (two t (.ptr 9 0) (.ptr 23 0)),.cells (two t (iv x.aS) (iv x.aO)),.cells (two t (iv x.bS) (iv x.bO)),.cells (P.map fun p => .tl (T := T) 2 p)]
def kR (l : List Bool) (x : LS) : List (Nat × V) := [(3,.tl (T := T) 1 l),(9,.ptr 28 0),(10,.ptr 7 0),(11,.ptr 14 0),(13,.ptr 29 0),(14,.ptr 30 0),(15,.ptr 31 0),(16,.ptr 32 0),(17,.ptr 33 0),(18,iv (x.i : Int))]
def ZOk (s : XM) (z : Int) (k : Nat) : Prop := s.job ≠ 0 → z = stY s.part ∧ k = s.i
def PlOk (e : Bool) (n : Nat) (a b : Int) (s : XM) : Prop :=
 (b = 0 ∧ a = 0 ∧ noX s) ∨ (b = 0 ∧ 1 ≤ a ∧ a ≤ (n : Int) + 1 ∧ s.life = 1 ∧ s.job = 0 ∧ clear s) ∨ (e = true ∧ b = 0 ∧ a = (n : Int) + 2 ∧ noX s) ∨
 (b = 1 ∧ 1 ≤ a ∧ a ≤ (n : Int) + 2 ∧ s.job ≠ 0 ∧ (s.job = 1 ∨ s.job = 2 → a ≤ (n : Int) + 1) ∧ (s.job = 4 → a = (n : Int) + 2))
structure LI (e : Bool) (m nS nO : Nat) (x : LS) : Prop where
 S : AI m x.S
 O : AI m x.O
 W : MI m x.S.W
 zS : ZOk x.S x.z x.k
 zO : ZOk x.O x.zo x.ko
 pS : PlOk e nS x.aS x.bS x.S
 pO : PlOk false nO x.aO x.bO x.O
def nP (P : List (List Op)) (t : Bool) : Nat := (P.getD (bif t then 1 else 0) []).length
def lenOk (l : List Bool) (P : List (List Op)) : Prop := l.length ≤ 150 ∧ nP P false ≤ 8 ∧ nP P true ≤ 8
def k0 (l : List Bool) (P : List (List Op)) : CutD cod := ⟨LS,fun x => LI false x.i (nP P false) (nP P true) x ∧ x.i ≤ l.length ∧ lenOk l P,fun x => (200 - x.i) * 3,kR l,kO false P⟩
def k1 (l : List Bool) (P : List (List Op)) (t : Bool) : CutD cod := ⟨LS,fun x => LI false x.i (nP P t) (nP P !t) x ∧ x.i < l.length ∧ lenOk l P,fun x => (200 - x.i) * 3 - 1,fun x => kR l x ++ [(19,li (bif t then 1 else 0))],kO t P⟩
def k2 (l : List Bool) (P : List (List Op)) (t : Bool) : CutD cod := ⟨LS,fun x => LI true (x.i + 1) (nP P t) (nP P !t) x ∧ x.i < l.length ∧ lenOk l P,fun x => (200 - x.i) * 3 - 2,fun x => kR l x ++ [(19,li (bif t then 1 else 0))],kO t P⟩
def W0 : List Int := List.replicate 34 0
def k6 (l : List Bool) (P : List (List Op)) : CutD cod := ⟨Int,fun c => (c = 1 ∨ c = 2) ∧ lenOk l P,fun _ => 1000,fun c => [(1,.tl (T := T) 2 (P.getD 0 [])),(2,.tl (T := T) 2 (P.getD 1 [])),(3,.tl (T := T) 1 l),(9,.ptr 0 0),(10,.ptr 1 0),(11,.ptr 3 0),(12,li c)],
 fun _ => [.cells [li 3,li 1,li 3,li 0,li 4],.cells [.R 2,iv 0,iv 0,iv 0,iv 0,iv 0,.b false],.rows 0 W0 false 2,.cells [.R 4,iv 0,iv 0,iv 0,iv 0,iv 0,.b false],.rows 0 W0 false 4]⟩
def cutsT (l : List Bool) (P : List (List Op)) : List (Nat × CutD cod) := [(12,k0 l P),(17,k1 l P false),(17,k1 l P true),(41,k2 l P false),(41,k2 l P true),(6,k6 l P)]
def fT (l : List Bool) (P : List (List Op)) : FnD cod := ⟨cutsT l P,.b true,[]⟩
def litT (v : V) : Option Nat := match v with
 | .a (.int .i64 0) => some 0
 | .a (.int .i64 1) => some 1
 | _ => none
noncomputable def selT (rid : Nat) (r : SR cod) (h : SH cod) : Option Nat :=
 bif Nat.beq rid 12 then some 0 else bif Nat.beq rid 6 then some 5 else (litT (r.get 19)).map fun t => bif Nat.beq rid 17 then t + 1 else t + 3
noncomputable def lT : List (FuncId × Ctr cod) := [(4,toldCtr (.bool true)),(9,frCtr (xBegD noX)),(11,frCtr (xComD opX)),(14,frCtr (xReadD fun q => opX q.1 ∧ isData q.2)),(16,frCtr (xWrtD fun q => opX q.1 ∧ isData q.2.1)),(18,frCtr (xStepD stepX atX 36)),
 (10,frCtr (yBegD noX)),(12,frCtr (yComD opX)),(15,frCtr (yReadD fun q => opX q.1 ∧ isData q.2)),(17,frCtr (yWrtD fun q => opX q.1 ∧ isData q.2.1)),(19,frCtr (yStepD stepX atX 39)),(21,frCtr (lkD SB)),(22,mkCtr sameD),(13,mkCtr dataD),(74,mkCtr threadD),(53,mkCtr sizeD),(27,mkCtr sizeD),(77,mkCtr mayD),(38,mkCtr mayD)]
noncomputable def b3 : Code := Tryz.f3.body.getD .skip
noncomputable abbrev cT (l : List Bool) (P : List (List Op)) (rid : Nat) (c : CutD cod) (s : c.St) : Tree := cutS F (lookC lT) 3000 Tryz.f3 b3 (fT l P) selT rid c s
end Go.Proofs.YtmjjljngaefpaaaGreat

/- wake: its contract. -/
import Derived.Test.YtcholkmididfmaaGreatDoorAd
namespace Go.Proofs.YtcholkmididfmaaGreatDoor
open Go.RowKit Go.Am Go.Sy
set_option linter.unusedVariables false
def updQ (q : Nat → List Int) (c : Nat) (l : List Int) : Nat → List Int := fun i => if Nat.beq i c then l else q i
def stT (x : One) (st : Int) : One := ⟨x.at_,x.fuel,st,x.r0,x.r1,x.r2,x.r3,x.awake,x.opn,x.log⟩
def awT (x : One) (a : Int) : One := ⟨x.at_,x.fuel,x.status,x.r0,x.r1,x.r2,x.r3,a,x.opn,x.log⟩
def wakeM (S : MT) (c : Nat) : MT := match S.q c with
 | [] => S
 | u :: l => { S with th := updT S.th u.toNat (awT (stT (S.th u.toNat) 0) c),q := updQ S.q c l }
structure WkS where
 K : MK
 S : MT
 c : Nat
structure WkI (n : Nat) (s : WkS) : Prop where
 c : s.c < 3
 q : ∀ u ∈ s.S.q s.c,0 ≤ u ∧ u < (n : Int)
def mMid (n b : Nat) (h : SH cod) : SH cod := bif Nat.beq b 5 then [] else List.replicate (3 + 2 * n) none ++ (h.drop (8 + 2 * n)).take (b - (8 + 2 * n))
def mInB (K : MK) (n b : Nat) (S : MT) (h : SH cod) : SH cod := (mBase K n b S).map some ++ mMid n b h ++ (mLists n S).map some ++ h.drop (b + (3 + 2 * n))
def mFootB (n b j : Nat) : Bool := Nat.blt j (8 + 2 * n) || (Nat.ble b j && Nat.blt j (b + (3 + 2 * n)))
def mOutB (K : MK) (n b N : Nat) (S : MT) (h : SH cod) : SH cod := (mBase K n N S).map some ++ mMid n b h ++ List.replicate (3 + 2 * n) none ++ h.drop (b + (3 + 2 * n)) ++ (mLists n S).map some
def wkCD (n N b : Nat) : FrD cod := ⟨N,mFootB n b,WkS,WkI n,fun s => [.ptr 0 0,li (s.c : Int)],fun s => mInB s.K n b s.S,[⟨MK × MT,fun s r => r.1 = s.K ∧ r.2 = wakeM s.S s.c,fun r => .any,fun r h => mOutB r.1 n b N r.2 h⟩],fun _ _ => 0⟩
noncomputable def b91 : Code := Tryz.f91.body.getD .skip
def thoE (f g : Nat → One) : Nat → Prop → Prop
 | 0,P => P
 | k + 1,P => thoE f g k (thE (f k) (g k) ((f k).opn = (g k).opn ∧ (f k).log = (g k).log ∧ P))
def oB (f : Nat → Option Ob) (n b : Nat) : Nat → Prop → Prop
 | 0,P => P
 | k + 1,P => bif mFootB n b k then oB f n b k P else (f k = f k ∧ oB f n b k P)
theorem oB_ok (f : Nat → Option Ob) (n b : Nat) {P : Prop} (h : P) : ∀ k,oB f n b k P
 | 0 => h
 | k + 1 => by
  unfold oB
  cases mFootB n b k with
  | true => exact oB_ok f n b h k
  | false => exact ⟨rfl,oB_ok f n b h k⟩
def mLo (n N b : Nat) (f : Nat → Option Ob) (K : MK) (S : MT) (Q : MK × MT → Prop) : Prop :=
 ∃ r : MK × MT,S.w = r.2.w ∧ S.o = r.2.o ∧ S.q 0 = r.2.q 0 ∧ S.q 1 = r.2.q 1 ∧ S.q 2 = r.2.q 2 ∧ thoE S.th r.2.th n (kE K r.1 (oB f n b N (Q r ∧ True)))
theorem thoE_ok (f : Nat → One) {P : Prop} (h : P) : ∀ n,thoE f f n P
 | 0 => h
 | n + 1 => by
  unfold thoE
  have h' : thE (f n) (f n) ((f n).opn = (f n).opn ∧ (f n).log = (f n).log ∧ P) := ⟨rfl,rfl,rfl,rfl,rfl,rfl,rfl,rfl,rfl,rfl,h⟩
  exact thoE_ok f h' n
theorem mLo_ok {n N b : Nat} {f : Nat → Option Ob} {K : MK} {S : MT} {Q : MK × MT → Prop} (h : Q (K,S)) : mLo n N b f K S Q :=
 ⟨(K,S),rfl,rfl,rfl,rfl,rfl,thoE_ok _ ⟨rfl,rfl,rfl,rfl,rfl,rfl,rfl,rfl,rfl,rfl,rfl,rfl,rfl,oB_ok _ _ _ ⟨h,trivial⟩ _⟩ _⟩
def chP (x : Int) : Nat → (Nat → Prop) → Prop
 | 0,_ => True
 | n + 1,K => bif Nat.beq n 0 then K 0 else ((x == Int.ofNat n) = true → K n) ∧ ((x == Int.ofNat n) = false → chP x n K)
def ixP (x : Int) (n : Nat) (K : Nat → Prop) : Prop := ((0 : Int) ≤ x ∧ x < (n : Int)) ∧ chP x n K
theorem chP_ok {x : Int} {K : Nat → Prop} (h : K x.toNat) : ∀ n : Nat,0 ≤ x → x < (n : Int) → chP x n K
 | 0,_,_ => trivial
 | n + 1,h0,h1 => by
  unfold chP
  cases hn : Nat.beq n 0 with
  | true =>
   have hn := Nat.eq_of_beq_eq_true hn
   subst hn
   have : x.toNat = 0 := by omega
   rw [this] at h
   exact h
  | false =>
   refine ⟨fun e => ?_,fun e => ?_⟩
   ·have e : x = (n : Int) := eq_of_beq e
    have : x.toNat = n := by omega
    rw [this] at h
    exact h
   ·have e : x ≠ (n : Int) := ne_of_beq_false e
    exact chP_ok h n h0 (by omega)
theorem ixP_ok {x : Int} {n : Nat} {K : Nat → Prop} (h : 0 ≤ x ∧ x < (n : Int)) (hk : K x.toNat) : ixP x n K := ⟨h,chP_ok hk n h.1 h.2⟩
section
variable (n N b : Nat) (s : WkS) (f : Nat → Option Ob)
def wkL (S : MT) : Prop := mLo n N b f s.K S fun r => r.1 = s.K ∧ r.2 = wakeM s.S s.c
def wkB (l : List Int) (P : Prop) : Prop := ((0 : Int) ≤ 0 ∧ (0 : Int) < (l.length : Int)) ∧ P
def wkT (j k : Nat) : MT :=
 let g := updT s.S.th j (stT (s.S.th j) 0)
 { s.S with th := updT g k (awT (g k) s.c),q := updQ s.S.q s.c (List.take ((s.S.q s.c).length - 1) (List.drop 1 (s.S.q s.c))) }
def wkP (l : List Int) : Prop :=
 (decide ((l.length : Int) > 0) = true → wkB l (wkB l (wkB l (wkB l (ixP (at0 l 0) n fun j => ixP (at0 l 0) n fun k =>
  ((0 : Int) ≤ 1 ∧ (1 : Int) ≤ (l.length : Int) ∧ (l.length : Int) ≤ (l.length : Int)) ∧ wkL n N b s f (wkT s j k)))))) ∧
 (decide ((l.length : Int) > 0) = false → wkL n N b s f s.S)
theorem wkT_is {u : Int} {l : List Int} (h : s.S.q s.c = u :: l) : wkT s u.toNat u.toNat = wakeM s.S s.c := by
 have hl : List.take ((s.S.q s.c).length - 1) (List.drop 1 (s.S.q s.c)) = l := by rw [h]; simp
 have hj : ∀ i : Nat,Nat.beq i i = true := fun i => Nat.beq_refl i
 have hth : updT (updT s.S.th u.toNat (stT (s.S.th u.toNat) 0)) u.toNat (awT (updT s.S.th u.toNat (stT (s.S.th u.toNat) 0) u.toNat) s.c) = updT s.S.th u.toNat (awT (stT (s.S.th u.toNat) 0) s.c) := by
  funext i
  simp only [updT,hj]
  cases Nat.beq i u.toNat <;> rfl
 simp only [wkT,hl,hth]
 simp only [wakeM,h]
theorem wkP_ok (hI : WkI n s) : wkP n N b s f (s.S.q s.c) := by
 cases h : s.S.q s.c with
 | nil =>
  refine ⟨fun e => ?_,fun _ => mLo_ok ⟨rfl, ?_⟩⟩
  ·exact absurd (qb e) (by simp)
  ·rw [wakeM,h]
 | cons u l =>
  have hu := hI.q u (by rw [h]; exact List.mem_cons_self)
  have hb : (0 : Int) ≤ 0 ∧ (0 : Int) < ((u :: l).length : Int) := ⟨by omega,by rw [qn]; omega⟩
  have e0 : at0 (u :: l) 0 = u := rfl
  refine ⟨fun _ => ⟨hb,hb,hb,hb, ?_⟩,fun e => ?_⟩
  ·rw [e0]
   exact ixP_ok hu (ixP_ok hu ⟨⟨by omega,by omega,by omega⟩,mLo_ok ⟨rfl,wkT_is s h⟩⟩)
  ·exact absurd hb.2 (qc e)
end
end Go.Proofs.YtcholkmididfmaaGreatDoor
/- wake: its conditions, at three numbers of names. -/
namespace Go.Proofs.YtcholkmididfmaaGreatDoor
open Go.RowKit Go.Am Go.Sy
set_option maxRecDepth 100000
abbrev wkQ (n N b c : Nat) : Prop := ∀ (K : MK) (S : MT) (f : Nat → Option Ob),Go.Sy.Tree.holds (vcC (goC [] Tryz.f91 b91) (wkCD n N b) ⟨K,S,c⟩ (hOf f N)) = wkP n N b ⟨K,S,c⟩ f (S.q c)
theorem wk_10_48 : wkQ 1 48 5 0 := fun K S f => by kernel_rfl
theorem wk_11_48 : wkQ 1 48 5 1 := fun K S f => by kernel_rfl
theorem wk_12_48 : wkQ 1 48 5 2 := fun K S f => by kernel_rfl
theorem wk_20_48 : wkQ 2 48 5 0 := fun K S f => by kernel_rfl
theorem wk_21_48 : wkQ 2 48 5 1 := fun K S f => by kernel_rfl
theorem wk_22_48 : wkQ 2 48 5 2 := fun K S f => by kernel_rfl
theorem wk_30_48 : wkQ 3 48 5 0 := fun K S f => by kernel_rfl
theorem wk_31_48 : wkQ 3 48 5 1 := fun K S f => by kernel_rfl
theorem wk_32_48 : wkQ 3 48 5 2 := fun K S f => by kernel_rfl
theorem wk_10_64 : wkQ 1 64 48 0 := fun K S f => by kernel_rfl
theorem wk_11_64 : wkQ 1 64 48 1 := fun K S f => by kernel_rfl
theorem wk_12_64 : wkQ 1 64 48 2 := fun K S f => by kernel_rfl
theorem wk_20_64 : wkQ 2 64 48 0 := fun K S f => by kernel_rfl
theorem wk_21_64 : wkQ 2 64 48 1 := fun K S f => by kernel_rfl
theorem wk_22_64 : wkQ 2 64 48 2 := fun K S f => by kernel_rfl
theorem wk_30_64 : wkQ 3 64 48 0 := fun K S f => by kernel_rfl
theorem wk_31_64 : wkQ 3 64 48 1 := fun K S f => by kernel_rfl
theorem wk_32_64 : wkQ 3 64 48 2 := fun K S f => by kernel_rfl
theorem wk_10_80 : wkQ 1 80 64 0 := fun K S f => by kernel_rfl
theorem wk_11_80 : wkQ 1 80 64 1 := fun K S f => by kernel_rfl
theorem wk_12_80 : wkQ 1 80 64 2 := fun K S f => by kernel_rfl
theorem wk_20_80 : wkQ 2 80 64 0 := fun K S f => by kernel_rfl
theorem wk_21_80 : wkQ 2 80 64 1 := fun K S f => by kernel_rfl
theorem wk_22_80 : wkQ 2 80 64 2 := fun K S f => by kernel_rfl
theorem wk_30_80 : wkQ 3 80 64 0 := fun K S f => by kernel_rfl
theorem wk_31_80 : wkQ 3 80 64 1 := fun K S f => by kernel_rfl
theorem wk_32_80 : wkQ 3 80 64 2 := fun K S f => by kernel_rfl
end Go.Proofs.YtcholkmididfmaaGreatDoor

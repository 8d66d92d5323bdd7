/- does: its contract is paid. -/
import Derived.Test.YtcholkmididfmaaGreatDoorDs
import Derived.Test.YtcholkmididfmaaGreatDoorDv
import Derived.Test.YtcholkmididfmaaGreatDoorDx
namespace Go.Proofs.YtcholkmididfmaaGreatDoor
open Go.RowKit Go.Am Go.Sy
set_option linter.unusedVariables false
set_option linter.unusedSimpArgs false
theorem enc2_low (x : Instr) (M : Nat) : ltOO M (some (Go.Sy.Obj.cells (enc2 x) : Ob)) = true := rfl
theorem gOf_low {n N M : Nat} {f : Nat → Option Ob} (x : Instr) (hM : N ≤ M) (hf : ∀ k,mFootB n 5 k = false → k < N → ltOO N (f k) = true) : ∀ k,mFootB n 5 k = false → ltOO M (gOf f N x k) = true := by
 intro k hk
 unfold gOf
 cases h1 : Nat.blt k N with
 | true =>
  rw [Nat.blt_eq] at h1
  exact ltOO_mono hM (hf k hk h1)
 | false =>
  cases h2 : Nat.beq k N with
  | true => exact enc2_low x M
  | false => rfl
theorem foot_less {n b k : Nat} (h : mFootB n b k = false) : mFootB n 5 k = false := by
 have h0 : Nat.blt k (8 + 2 * n) = false := by
  unfold mFootB at h
  exact (Bool.or_eq_false_iff.1 h).1
 unfold mFootB
 rw [h0,Bool.false_or]
 have : ¬ k < 8 + 2 * n := by rw [← Nat.blt_eq,h0]; decide
 cases h1 : Nat.ble 5 k with
 | false => rfl
 | true =>
  rw [Bool.true_and]
  cases h2 : Nat.blt k (5 + (3 + 2 * n)) with
  | false => rfl
  | true => rw [Nat.blt_eq] at h2; omega
section
variable (n t N : Nat) (s : AcS) (f : Nat → Option Ob)
theorem dsL_ok {K : MK} {S : MT} (h1 : K = s.K) (h : S = doesM s.K t s.S s.x) : dsL n t N s f K S := mLo_ok ⟨h1,h⟩
theorem acCall_ok (hN : N ≤ 48) (hf : ∀ k,mFootB n 5 k = false → k < N → ltOO N (f k) = true) (hI : AcI n t s) {cont : MK × MT × Bool → Prop} (h : cont (s.K,accM s.K s.S t s.x,!accNo s.K s.S t s.x)) : acCall n t N s f cont := by
 refine askP_ok ⟨s,rfl,rfl,rfl,rfl,rfl,lsE_ok _ ⟨rfl,rfl,rfl,rfl,rfl,rfl,thsE_ok _ ⟨rfl,rfl,rfl,rfl,rfl,rfl,rfl,rfl,rfl,rfl,rfl,rfl,rfl,hI,fun y hy => ?_,trivial⟩ _⟩ _⟩ (gOf_low s.x hN hf) _
 obtain ⟨a,b,c⟩ := y
 obtain ⟨rfl,rfl,rfl⟩ := hy
 exact h
theorem wkCall_ok {M b : Nat} (hN : N ≤ M) (hf : ∀ k,mFootB n 5 k = false → k < N → ltOO N (f k) = true) {S : MT} (hx : 0 ≤ s.x.a) (hI : WkI n ⟨s.K,S,s.x.a.toNat⟩) {cont : MK × MT → Prop} (h : cont (s.K,wakeM S s.x.a.toNat)) : wkCall n N s f M b s.K S cont := by
 refine askP_ok ⟨⟨s.K,S,s.x.a.toNat⟩,toE_ok _ _ _ ?_ ⟨hI,fun y hy => ?_,trivial⟩⟩ (fun k hk => gOf_low s.x hN hf k (foot_less hk)) _
 ·rw [Int.toNat_of_nonneg hx]
 ·obtain ⟨a,b⟩ := y
  obtain ⟨rfl,rfl⟩ := hy
  exact h
theorem wake_q {S : MT} {c : Nat} (h : ∀ c,c < 3 → ∀ u ∈ S.q c,0 ≤ u ∧ u < (n : Int)) : ∀ d,d < 3 → ∀ u ∈ (wakeM S c).q d,0 ≤ u ∧ u < (n : Int) := by
 intro d hd u hu
 unfold wakeM at hu
 cases hq : S.q c with
 | nil => rw [hq] at hu; exact h d hd u hu
 | cons v l =>
  rw [hq] at hu
  have h2 : u ∈ updQ S.q c l d := hu
  unfold updQ at h2
  cases hb : Nat.beq d c with
  | true =>
   rw [hb] at h2
   have h3 : u ∈ l := h2
   have e := Nat.eq_of_beq_eq_true hb
   exact h d hd u (by rw [e,hq]; exact List.mem_cons_of_mem _ h3)
  | false =>
   rw [hb] at h2
   have h3 : u ∈ S.q d := h2
   exact h d hd u h3
theorem doP_ok (hN : N ≤ 48) (hf : ∀ k,mFootB n 5 k = false → k < N → ltOO N (f k) = true) (hI : DsI n t s) : doP n t N s f := by
 have hL : ∀ {op : Int},op ≠ 0 → True := fun _ => trivial
 -- access's four
 have ac : (s.x.op = 8 ∨ s.x.op = 9 ∨ s.x.op = 10 ∨ s.x.op = 11) → localB s.x.op = false → acB n t N s f := fun h hl => by
  have hA : AcI n t s := ⟨hI.b4 h,fun h' => hI.a4 (by omega),h,hI.own,hI.lk,hI.opn⟩
  have hm : doesM s.K t s.S s.x = bif accNo s.K s.S t s.x then stopM s.S t 2 else nextM (accM s.K s.S t s.x) t := by
   unfold doesM
   rw [if_neg (by rw [hl]; decide),if_pos h]
  refine acCall_ok n t N s f hN hf hA ⟨fun e => dsL_ok n t N s f rfl ?_,fun e => dsL_ok n t N s f rfl ?_⟩
  ·have e : accNo s.K s.S t s.x = true := by simpa using e
   rw [hm,e]
   show stopM (accM s.K s.S t s.x) t 2 = _
   rw [accM,if_pos e]
   rfl
  ·have e : accNo s.K s.S t s.x = false := by simpa using e
   rw [hm,e]
   rfl
 have nl : ¬ localB s.x.op = true → localB s.x.op = false := fun h => by cases hb : localB s.x.op <;> simp_all
 unfold doP
 refine ⟨trivial,fun hl => ⟨⟨by omega,by have := hI.pl; omega⟩,⟨by omega,by have := hI.ml; omega⟩,trivial,dsL_ok n t N s f rfl ?_⟩,fun hl => ⟨fun e => ac (.inl (eq_of_beq e)) hl,fun n8 => ⟨fun e => ac (.inr (.inl (eq_of_beq e))) hl,fun n9 => ⟨fun e => ac (.inr (.inr (.inl (eq_of_beq e)))) hl,fun n10 => ⟨fun e => ac (.inr (.inr (.inr (eq_of_beq e)))) hl,fun n11 => ?_⟩⟩⟩⟩⟩
 ·unfold doesM
  rw [if_pos hl]
 have n8 := ne_of_beq_false n8
 have n9 := ne_of_beq_false n9
 have n10 := ne_of_beq_false n10
 have n11 := ne_of_beq_false n11
 have hd : doesM s.K t s.S s.x = (if s.x.op = 12 then nextM (setM s.S t (lgT (s.S.th t) ((s.S.th t).log ++ [sel4 (regs (s.S.th t)) s.x.a]))) t
  else if s.x.op = 13 then nextM (setM s.S t (opT (s.S.th t) ((s.S.th t).opn ++ [⟨s.x.a,s.x.b == 1⟩]))) t
  else if s.x.op = 14 then nextM (setM s.S t (opT (s.S.th t) ((s.S.th t).opn.take ((s.S.th t).opn.length - 1)))) t
  else if s.x.op = 15 then nextM (stopM { s.S with q := updQ s.S.q s.x.a.toNat (s.S.q s.x.a.toNat ++ [(t : Int)]) } t 4) t
  else if s.x.op = 16 then nextM (wakesM s.S s.x.a.toNat 1) t
  else if s.x.op = 17 then nextM (wakesM s.S s.x.a.toNat (s.S.q s.x.a.toNat).length) t
  else nextM s.S t) := by
  unfold doesM
  rw [if_neg (by rw [hl]; decide),if_neg (by omega)]
 refine ⟨fun e => ?_,fun n12 => ⟨fun e => ?_,fun n13 => ⟨fun e => ?_,fun n14 => ⟨fun e => ?_,fun n15 => ⟨fun e => ?_,fun n17 => ⟨fun e => ?_,fun n16 => ?_⟩⟩⟩⟩⟩⟩
 ·have e := eq_of_beq e
  refine at4P_ok (hI.a4 (.inr (.inr e))) ⟨by have := hI.log; rw [List.length_singleton]; omega,dsL_ok n t N s f rfl ?_⟩
  rw [hd,if_pos e]
 ·have e := eq_of_beq e
  have n12 := ne_of_beq_false n12
  refine ⟨by have := hI.opn; rw [List.length_singleton]; omega,dsL_ok n t N s f rfl ?_⟩
  rw [hd,if_neg n12,if_pos e]
 ·have e := eq_of_beq e
  have n12 := ne_of_beq_false n12
  have n13 := ne_of_beq_false n13
  have h1 := hI.lv e
  have h2 := hI.opn
  have hw : IntKind.i64.wrap (((s.S.th t).opn.length : Int) - 1) = (((s.S.th t).opn.length - 1 : Nat) : Int) := by rw [wrap64 (by omega) (by omega)]; omega
  refine ⟨⟨by omega,by rw [hw]; omega,by rw [hw]; omega⟩,dsL_ok n t N s f rfl ?_⟩
  rw [hd,if_neg n12,if_neg n13,if_pos e,hw]
  rfl
 ·have e := eq_of_beq e
  have n12 := ne_of_beq_false n12
  have n13 := ne_of_beq_false n13
  have n14 := ne_of_beq_false n14
  have hc := hI.c3 (.inl e)
  have hq := hI.ql s.x.a.toNat (by omega)
  refine ixP_ok hc ⟨by rw [List.length_singleton]; omega,ixP_ok hc ?_⟩
  rw [Nat.beq_refl]
  refine dsL_ok n t N s f rfl ?_
  rw [hd,if_neg n12,if_neg n13,if_neg n14,if_pos e]
 ·have e := eq_of_beq e
  have n12 := ne_of_beq_false n12
  have n13 := ne_of_beq_false n13
  have n14 := ne_of_beq_false n14
  have n15 := ne_of_beq_false n15
  have hc := hI.c3 (.inr (.inr e))
  have hq := hI.ql s.x.a.toNat (by omega)
  have hc3 : s.x.a.toNat < 3 := by omega
  have hdd : doesM s.K t s.S s.x = nextM (wakesM s.S s.x.a.toNat (s.S.q s.x.a.toNat).length) t := by rw [hd,if_neg n12,if_neg n13,if_neg n14,if_neg n15,if_neg (by omega),if_pos e]
  have hw : IntKind.i64.wrap (((s.S.q s.x.a.toNat).length : Int) - 1) = ((s.S.q s.x.a.toNat).length : Int) - 1 := wrap64 (by omega) (by omega)
  have q1 := wake_q n (c := s.x.a.toNat) hI.q
  have q2 := wake_q n (c := s.x.a.toNat) q1
  refine ixP_ok hc ?_
  unfold toB
  rw [hw]
  refine ⟨fun h0 => wkCall_ok n N s f hN hf hc.1 ⟨hc3,hI.q _ hc3⟩ ⟨fun h1 => wkCall_ok n N s f (by omega) hf hc.1 ⟨hc3,q1 _ hc3⟩ ⟨fun h2 => wkCall_ok n N s f (by omega) hf hc.1 ⟨hc3,q2 _ hc3⟩ ⟨fun h3 => ?_,fun h3 => dsL_ok n t N s f rfl ?_⟩,fun h2 => dsL_ok n t N s f rfl ?_⟩,fun h1 => dsL_ok n t N s f rfl ?_⟩,fun h0 => dsL_ok n t N s f rfl ?_⟩
  ·have h3 := qb h3; omega
  ·have h2 := qb h2
   have : (s.S.q s.x.a.toNat).length = 3 := by omega
   rw [hdd,this]; rfl
  ·have h1 := qb h1
   have h2 := qc h2
   have : (s.S.q s.x.a.toNat).length = 2 := by omega
   rw [hdd,this]; rfl
  ·have h0 := qb h0
   have h1 := qc h1
   have : (s.S.q s.x.a.toNat).length = 1 := by omega
   rw [hdd,this]; rfl
  ·have h0 := qc h0
   have : (s.S.q s.x.a.toNat).length = 0 := by omega
   rw [hdd,this]; rfl
 ·have e := eq_of_beq e
  have n12 := ne_of_beq_false n12
  have n13 := ne_of_beq_false n13
  have n14 := ne_of_beq_false n14
  have n15 := ne_of_beq_false n15
  have hc := hI.c3 (.inr (.inl e))
  have hc3 : s.x.a.toNat < 3 := by omega
  refine wkCall_ok n N s f hN hf hc.1 ⟨hc3,hI.q _ hc3⟩ (dsL_ok n t N s f rfl ?_)
  rw [hd,if_neg n12,if_neg n13,if_neg n14,if_neg n15,if_pos e]
  rfl
 ·have n12 := ne_of_beq_false n12
  have n13 := ne_of_beq_false n13
  have n14 := ne_of_beq_false n14
  have n15 := ne_of_beq_false n15
  have n16 := ne_of_beq_false n16
  have n17 := ne_of_beq_false n17
  refine dsL_ok n t N s f rfl ?_
  rw [hd,if_neg n12,if_neg n13,if_neg n14,if_neg n15,if_neg n16,if_neg n17]
end
end Go.Proofs.YtcholkmididfmaaGreatDoor
/- does: its contract. -/
namespace Go.Proofs.YtcholkmididfmaaGreatDoor
open Go.RowKit Go.Am Go.Sy
set_option linter.unusedVariables false
theorem mOut_get (K : MK) (n N : Nat) (S : MT) (h : SH cod) (j : Nat) (hn : 8 + 2 * n ≤ N) (hl : h.length = N) (hj : j < N) (hf : mFoot n j = false) : (mOut K n N S h)[j]? = h[j]? := by
 have hf : ¬ j < 8 + 2 * n := fun x => by rw [mFoot,← Nat.blt_eq] at *; rw [x] at hf; cases hf
 have h1 : ((mBase K n N S).map some ++ List.replicate (3 + 2 * n) (none : Option Ob)).length = 8 + 2 * n := by
  rw [qo,List.length_map,List.length_replicate,mBase_len]; omega
 rw [mOut,qg (by rw [qo,h1,List.length_drop]; omega),qk (by rw [h1]; omega),h1,qw]
 congr 1
 omega
theorem dsFr (n t N : Nat) (hn : 8 + 2 * n ≤ N) : FrOk (dsD n t N) where
 len := fun s h hl => by
  have hl : h.length = N := hl
  show (mIn s.K n s.S h).length = N
  rw [mIn_len _ _ _ _ (by omega),hl]
 ahead := fun s h j hl hj hf => mIn_get s.K n s.S h j hf
 behind := fun B hB r h j hl hj hf => by
  cases hB with
  | head => exact mOut_get r.1 n N r.2 h j hn hl hj hf
  | tail _ h => cases h
theorem w2Ok (n t : Nat) (h1 : 1 ≤ n) (h3 : n ≤ 3) (ht : t < n) : CtrOk F.S (lookC (w2 n t)) := lookC_ok fun p h => by
 have h : p ∈ [_,_,_,_] := h
 simp only [List.mem_cons,List.not_mem_nil,or_false] at h
 rcases h with rfl | rfl | rfl | rfl
 ·exact locOk
 ·exact nxOk
 ·exact accOk n t h1 h3 ht
 ·exact wakeOk n h1 h3
theorem goDs (n t : Nat) (h1 : 1 ≤ n) (h3 : n ≤ 3) (ht : t < n) : CtrOk1 F.S 56 (goC (w2 n t) Tryz.f56 b56) := loopCtr_ok (body := b56) codOk noExt hookLow (w2Ok n t h1 h3 ht) Tryz.func56 rfl (by kernel_rfl) (by kernel_rfl) 2000 (fun _ _ => []) (fun _ _ => 0) (by kernel_rfl)
theorem ds_of (n t : Nat) (h1 : 1 ≤ n) (h3 : n ≤ 3) (ht : t < n) (he : dsQ n t) : CtrOk1 F.S 56 (padCtr 40 (frCtrB (fun _ => true) (dsD n t 40))) :=
 padCtr_ok 40 (frCtrB_ok codOk _ _ (dsFr n t 40 (by omega)) fun s hI h hl hlow => ⟨_,goDs n t h1 h3 ht,by
  have hl : h.length = 40 := hl
  rw [hOf_is hl]
  refine ⟨?_⟩
  show Go.Sy.Tree.holds (vcC (goC (w2 n t) Tryz.f56 b56) (dsD n t 40) s _)
  rw [he s _]
  exact doP_ok n t 40 s _ (by decide) (fun k hk hlt => hlow k hlt (by
   unfold mFootB at hk
   exact (Bool.or_eq_false_iff.1 hk).1)) hI⟩)
noncomputable def doesCtr (n t : Nat) : Ctr cod := padCtr 40 (frCtrB (fun _ => true) (dsD n t 40))
theorem doesOk : ∀ n t,1 ≤ n → n ≤ 3 → t < n → CtrOk1 F.S 56 (doesCtr n t)
 | 1,0,a,b,c => ds_of 1 0 a b c ds_10
 | 2,0,a,b,c => ds_of 2 0 a b c ds_20
 | 2,1,a,b,c => ds_of 2 1 a b c ds_21
 | 3,0,a,b,c => ds_of 3 0 a b c ds_30
 | 3,1,a,b,c => ds_of 3 1 a b c ds_31
 | 3,2,a,b,c => ds_of 3 2 a b c ds_32
end Go.Proofs.YtcholkmididfmaaGreatDoor

/- Pick: its contract is paid. -/
import Derived.Test.YtcholkmididfmaaGreatDoorQt
namespace Go.Proofs.YtcholkmididfmaaGreatDoor
open Go.RowKit Go.Am Go.Sy
set_option linter.unusedVariables false
set_option linter.unusedSimpArgs false
section
variable (n t N : Nat) (s : PkS) (f : Nat → Option Ob)
theorem pkL_ok {K : MK} {S : MT} {b : Bool} (h1 : K = s.K) (h2 : S = pickM s.K n t s.S) (h3 : b = canB (viewM s.K n s.S) t) : pkL n t N s f K S b := mLp_ok ⟨h1,h2,h3⟩
theorem dsCall_ok (hf : ∀ k,mFootB n 5 k = false → k < N → ltOO N (f k) = true) {K : MK} {S : MT} {x : Instr} (hI : DsI n t ⟨K,S,x⟩) {cont : MK × MT → Prop} (h : cont (K,doesM K t S x)) : dsCall n t N f K S x cont := by
 have hk : ∀ k,k ≤ N → askP N n 5 f k (∃ z : AcS,S.w = z.S.w ∧ S.o = z.S.o ∧ S.q 0 = z.S.q 0 ∧ S.q 1 = z.S.q 1 ∧ S.q 2 = z.S.q 2 ∧ lsE S.th z.S.th n
 (AVal.int .i64 t = AVal.int .i64 t ∧ x.op = z.x.op ∧ x.a = z.x.a ∧ x.b = z.x.b ∧ x.c = z.x.c ∧ x.n = z.x.n ∧ thsE S.th z.S.th n (kE K z.K (DsI n t z ∧ (∀ y : MK × MT,y.1 = z.K ∧ y.2 = doesM z.K t z.S z.x → cont y) ∧ True)))) := by
  intro k
  induction k with
  | zero =>
   intro _
   refine ⟨⟨K,S,x⟩,rfl,rfl,rfl,rfl,rfl,lsE_ok _ ⟨rfl,rfl,rfl,rfl,rfl,rfl,thsE_ok _ ⟨rfl,rfl,rfl,rfl,rfl,rfl,rfl,rfl,rfl,rfl,rfl,rfl,rfl,hI,fun y hy => ?_,trivial⟩ _⟩ _⟩
   obtain ⟨a,b⟩ := y
   obtain ⟨h1,h2⟩ := hy
   have h1 : a = K := h1
   have h2 : b = doesM K t S x := h2
   rw [h1,h2]
   exact h
  | succ k ih =>
   intro hk
   unfold askP
   cases hb : mFootB n 5 k with
   | true => exact ih (by omega)
   | false => exact ⟨hf k hb (by omega),ih (by omega)⟩
 exact hk N (qf _)
theorem endB_ok {K : MK} {S : MT} {L : MT → Prop} (hp : t < K.c.progs.length) (h : L (doneM K t S)) : endB t K S L := by
 refine ⟨fun e => ⟨⟨by omega,by omega⟩,fun h1 => ?_,fun h1 => ?_⟩,fun e => ?_⟩
 ·have e := eq_of_beq e
  have h1 := qb h1
  rw [doneM,if_pos ⟨e,h1⟩] at h
  exact h
 ·have h1 := qc h1
  rw [doneM,if_neg (fun x => h1 x.2)] at h
  exact h
 ·have e := ne_of_beq_false e
  rw [doneM,if_neg (fun x => e x.1)] at h
  exact h
theorem can_in {t : Nat} (hI : CanOk (viewM s.K n s.S)) (hc : canB (viewM s.K n s.S) t = true) : t < n ∧ t < s.K.c.progs.length ∧ 0 ≤ (s.S.th t).at_ ∧ (s.S.th t).at_ < ((at3 s.K.c.progs t).length : Int) := by
 have hal : (viewM s.K n s.S).all.length = n := allL_len _ _
 have hpl : n = s.K.c.progs.length := by rw [← hal]; exact hI.len
 unfold canB at hc
 by_cases h : ((t : Int) < 0 ∨ (t : Int) ≥ (viewM s.K n s.S).all.length ∨ (at12 (viewM s.K n s.S).all (t : Int)).status ≠ 0)
 ·rw [if_pos h] at hc; cases hc
 ·have ht : t < n := by
   rcases qm t n with h' | h'
   ·exact h'
   ·exact absurd (.inr (.inl (by rw [hal]; omega))) h
  have hst : (at12 (viewM s.K n s.S).all (t : Int)).status = 0 := by
   by_cases h' : (at12 (viewM s.K n s.S).all (t : Int)).status = 0
   ·exact h'
   ·exact absurd (.inr (.inr h')) h
  have hr := hI.run t (by rw [hal]; exact ht) hst
  have hv : at12 (viewM s.K n s.S).all (t : Int) = s.S.th t := allL_at ht
  rw [hv] at hr
  exact ⟨ht,by omega,hr.2⟩
theorem pkP_ok (hf : ∀ k,mFootB n 5 k = false → k < N → ltOO N (f k) = true) (ht : t < n) (hI : PkI n t s) : pkP n t N s f := by
 refine ⟨hI.can,fun e => ?_,fun e => ?_⟩
 ·have e : canB (viewM s.K n s.S) t = false := by simpa using e
  exact pkL_ok n t N s f rfl (by rw [pickM,if_neg (by rw [e]; decide)]) e.symm
 ·have e : canB (viewM s.K n s.S) t = true := by simpa using e
  obtain ⟨_,h2,h3,h4⟩ := can_in n s hI.can e
  have hp : pickM s.K n t s.S = doneM s.K t (goM s.K t s.S) := by rw [pickM,if_pos e]
  have haw := hI.aw ht
  refine ⟨fun a => absurd (qb a) (by omega),fun a => ⟨fun b => ?_,fun b => ?_⟩⟩
  ·have b := eq_of_beq b
   refine pkL_ok n t N s f rfl ?_ e.symm
   rw [hp,goM,if_neg (by omega),if_pos b,doneM,if_neg]
   rintro ⟨x,_⟩
   have : ((stopM s.S t 3).th t).status = 3 := by rw [stopM,setM]; show (updT _ _ _ t).status = 3; rw [updT_same]; rfl
   omega
  ·have b := ne_of_beq_false b
   have hg : goM s.K t s.S = doesM s.K t (setM s.S t (fuT (s.S.th t) (IntKind.i64.wrap ((s.S.th t).fuel - 1)))) (at2 (at3 s.K.c.progs t) (s.S.th t).at_) := by rw [goM,if_neg (by omega),if_neg b]
   refine ⟨⟨by omega,by omega⟩,⟨h3,h4⟩,dsCall_ok n t N f hf (hI.ds ht e) (endB_ok t h2 (pkL_ok n t N s f rfl ?_ e.symm))⟩
   rw [hp,hg]
theorem pkN_ok (ht : n ≤ t) (hI : PkI n t s) : pkN n t N s f := by
 have hn : ¬ canB (viewM s.K n s.S) t = true := fun e => by
  have := (can_in n s hI.can e).1
  omega
 have e : canB (viewM s.K n s.S) t = false := by cases h : canB (viewM s.K n s.S) t <;> simp_all
 refine ⟨hI.can,fun _ => pkL_ok n t N s f rfl (by rw [pickM,if_neg hn]) e.symm,fun h => ?_⟩
 rw [e] at h
 cases h
end
theorem pkFr (n t N : Nat) (hn : 8 + 2 * n ≤ N) : FrOk (pkD n t N) where
 len := fun s h hl => by
  have hl : h.length = N := hl
  show (mIn s.K n s.S h).length = N
  rw [mIn_len _ _ _ _ (by omega),hl]
 ahead := fun s h j hl hj hf => mIn_get s.K n s.S h j hf
 behind := fun B hB r h j hl hj hf => by
  cases hB with
  | head => exact mOut_get r.1 n N r.2.1 h j hn hl hj hf
  | tail _ h => cases h
theorem w3Ok (n t : Nat) (h1 : 1 ≤ n) (h3 : n ≤ 3) (ht : t < n) : CtrOk F.S (lookC (w3 n t)) := lookC_ok fun p h => by
 have h : p ∈ [_,_] := h
 simp only [List.mem_cons,List.not_mem_nil,or_false] at h
 rcases h with rfl | rfl
 ·exact caOk
 ·exact doesOk n t h1 h3 ht
theorem w4Ok : CtrOk F.S (lookC w4) := lookC_ok fun p h => by
 have h : p ∈ [_,_] := h
 simp only [List.mem_cons,List.not_mem_nil,or_false] at h
 rcases h with rfl | rfl
 ·exact caOk
 ·exact noCtr_ok
theorem goPk {l : List (FuncId × Ctr cod)} (hl : CtrOk F.S (lookC l)) : CtrOk1 F.S 17 (goC l Tryz.f17 b17) := loopCtr_ok (body := b17) codOk noExt hookLow hl Tryz.func17 rfl (by kernel_rfl) (by kernel_rfl) 2000 (fun _ _ => []) (fun _ _ => 0) (by kernel_rfl)
theorem low_f {n N : Nat} {h : SH cod} (hlow : FrLow N (mFoot n) h N) : ∀ k,mFootB n 5 k = false → k < N → ltOO N (h.getD k none) = true := fun k hk hlt => hlow k hlt (by
 unfold mFootB at hk
 exact (Bool.or_eq_false_iff.1 hk).1)
theorem pk_of (n t : Nat) (h1 : 1 ≤ n) (h3 : n ≤ 3) (ht : t < n) (he : pkQ n t) : CtrOk1 F.S 17 (padCtr 40 (frCtrB (fun _ => true) (pkD n t 40))) :=
 padCtr_ok 40 (frCtrB_ok codOk _ _ (pkFr n t 40 (by omega)) fun s hI h hl hlow => ⟨_,goPk (w3Ok n t h1 h3 ht),by
  have hl : h.length = 40 := hl
  rw [hOf_is hl]
  refine ⟨?_⟩
  show Go.Sy.Tree.holds (vcC (goC (w3 n t) Tryz.f17 b17) (pkD n t 40) s _)
  rw [he s _]
  exact pkP_ok n t 40 s _ (low_f hlow) ht hI⟩)
theorem pkn_of (n t : Nat) (h3 : n ≤ 3) (ht : n ≤ t) (he : pnQ n t) : CtrOk1 F.S 17 (padCtr 40 (frCtrB (fun _ => true) (pkD n t 40))) :=
 padCtr_ok 40 (frCtrB_ok codOk _ _ (pkFr n t 40 (by omega)) fun s hI h hl hlow => ⟨_,goPk w4Ok,by
  have hl : h.length = 40 := hl
  rw [hOf_is hl]
  refine ⟨?_⟩
  show Go.Sy.Tree.holds (vcC (goC w4 Tryz.f17 b17) (pkD n t 40) s _)
  rw [he s _]
  exact pkN_ok n t 40 s _ ht hI⟩)
noncomputable def pickCt (n t : Nat) : Ctr cod := padCtr 40 (frCtrB (fun _ => true) (pkD n t 40))
theorem pickOk : ∀ n t,1 ≤ n → n ≤ 3 → t < 3 → CtrOk1 F.S 17 (pickCt n t)
 | 1,0,a,b,_ => pk_of 1 0 a b (by decide) pk_10
 | 1,1,a,b,_ => pkn_of 1 1 b (by decide) pk_11
 | 1,2,a,b,_ => pkn_of 1 2 b (by decide) pk_12
 | 2,0,a,b,_ => pk_of 2 0 a b (by decide) pk_20
 | 2,1,a,b,_ => pk_of 2 1 a b (by decide) pk_21
 | 2,2,a,b,_ => pkn_of 2 2 b (by decide) pk_22
 | 3,0,a,b,_ => pk_of 3 0 a b (by decide) pk_30
 | 3,1,a,b,_ => pk_of 3 1 a b (by decide) pk_31
 | 3,2,a,b,_ => pk_of 3 2 a b (by decide) pk_32
end Go.Proofs.YtcholkmididfmaaGreatDoor

/- access: its contract is paid. -/
import Derived.Test.YtcholkmididfmaaGreatDoorMs
namespace Go.Proofs.YtcholkmididfmaaGreatDoor
open Go.RowKit Go.Am Go.Sy
set_option linter.unusedVariables false
set_option linter.unusedSimpArgs false
theorem thsO_len (f : Nat → One) (r : Nat) : ∀ n,(thsO f r n).length = 2 * n
 | 0 => rfl
 | n + 1 => by simp only [thsO,qo,thsO_len f r n,qn,List.length_nil]; omega
theorem mLists_len (n : Nat) (S : MT) : (mLists n S).length = 3 + 2 * n := by simp only [mLists,qo,thsO_len,qn,List.length_nil]
theorem mHead_len (K : MK) (n b : Nat) (S : MT) : ((mBase K n b S ++ mLists n S).map some).length = 8 + 2 * n := by
 simp only [List.length_map,qo,mLists_len]
 show 5 + (3 + 2 * n) = 8 + 2 * n
 omega
theorem mIn_len (K : MK) (n : Nat) (S : MT) (h : SH cod) (hl : 8 + 2 * n ≤ h.length) : (mIn K n S h).length = h.length := by
 rw [mIn,qo,mHead_len,List.length_drop]
 omega
theorem mIn_get (K : MK) (n : Nat) (S : MT) (h : SH cod) (j : Nat) (hj : mFoot n j = false) : (mIn K n S h)[j]? = h[j]? := by
 have hj : ¬ j < 8 + 2 * n := fun x => by rw [mFoot,← Nat.blt_eq] at *; rw [x] at hj; cases hj
 rw [mIn,qk (by rw [mHead_len]; omega),mHead_len,qw]
 congr 1
 omega
theorem hOf_is {N : Nat} {h : SH cod} (hl : h.length = N) : h = hOf (fun i => h.getD i none) N := by
 refine List.ext_getElem? fun j => ?_
 rw [hOf,List.getElem?_map]
 rcases qm j N with hj | hj
 ·rw [List.getElem?_range hj,qt (by omega),Option.map_some,qi,qt (by omega)]
  rfl
 ·rw [qr (by omega),qr (by simp; omega)]
  rfl
section
variable (n t N : Nat) (s : AcS) (f : Nat → Option Ob)
theorem acP_ok (hI : AcI n t s) : acP n t N s f (accW s.K s.S t s.x) := by
 generalize hd : accW s.K s.S t s.x = d
 have no : accNo s.K s.S t s.x = true → acL n t N s f s.S false := fun h => mL_ok ⟨rfl,by rw [accM,if_pos h],by rw [h]; rfl⟩
 have yes : ∀ S',accNo s.K s.S t s.x = false → accM s.K s.S t s.x = S' → acL n t N s f S' true := fun S' h e => mL_ok ⟨rfl,e.symm,by rw [h]; rfl⟩
 have rest : ¬ d < 0 → ¬ d ≥ (s.S.w.length : Int) → (decide (((s.S.th t).opn.length : Int) > 0) && !holdsB (s.S.th t).opn s.x.op (regF s.K.c.locks d)) = false → acR n t N s f d (at0 s.S.o d) := by
  intro h1 h2 h3
  have hw : 0 ≤ d ∧ d < (s.S.w.length : Int) := ⟨by omega,by omega⟩
  have ho : 0 ≤ d ∧ d < (s.S.o.length : Int) := by rw [hI.own]; exact hw
  have hlen : decide ((s.S.th t).opn.length > 0) = decide (((s.S.th t).opn.length : Int) > 0) := by
   rw [decide_eq_decide]; omega
  have eN : accNo s.K s.S t s.x = (if s.x.op = 10 then at0 s.S.o d != -1 && at0 s.S.o d != t else if s.x.op = 11 then at0 s.S.o d != t else at0 s.S.o d != t && (at0 s.S.o d != -1 || ((s.S.th t).opn.length : Int) == 0)) := by
   simp only [accNo,hd,hlen]
   rw [decide_eq_false h1,decide_eq_false h2,h3]
   rfl
  generalize ho' : at0 s.S.o d = o at *
  have mo : ∀ {b : Bool},(!b) = true → b = false := fun {b} h => by cases b <;> simp at h ⊢
  have eM : accNo s.K s.S t s.x = false → accM s.K s.S t s.x = (if s.x.op = 10 then { s.S with o := s.S.o.set d.toNat t } else if s.x.op = 11 then { s.S with o := s.S.o.set d.toNat (-1) } else if s.x.op = 8 then { s.S with th := updT s.S.th t (setR (s.S.th t) (set4 (regs (s.S.th t)) s.x.a (at0 s.S.w d))) } else { s.S with w := s.S.w.set d.toNat (sel4 (regs (s.S.th t)) s.x.a) }) := by
   intro h
   simp only [accM,hd,h,Bool.false_eq_true,if_false]
  refine ⟨ho,ho,fun e10 => ⟨fun e1 => ⟨fun e2 => ?_,fun e2 => ⟨ho,ho, ?_⟩⟩,fun e1 => ⟨ho,ho, ?_⟩⟩,fun n10 => ⟨fun e11 => ⟨fun e2 => ?_,fun e2 => ⟨ho,ho, ?_⟩⟩,fun n11 => ⟨fun e2 => ⟨fun e1 => ?_,fun e1 => ⟨fun e0 => ?_,fun e0 => ?_⟩⟩,fun e2 => ?_⟩⟩⟩
  ·exact no (by rw [eN,if_pos (eq_of_beq e10),e1,e2]; rfl)
  ·have h : accNo s.K s.S t s.x = false := by rw [eN,if_pos (eq_of_beq e10),e1,e2]; rfl
   exact yes _ h (by rw [eM h,if_pos (eq_of_beq e10)])
  ·have h : accNo s.K s.S t s.x = false := by rw [eN,if_pos (eq_of_beq e10),e1]; rfl
   exact yes _ h (by rw [eM h,if_pos (eq_of_beq e10)])
  ·exact no (by rw [eN,if_neg (ne_of_beq_false n10),if_pos (eq_of_beq e11),e2])
  ·have h : accNo s.K s.S t s.x = false := by rw [eN,if_neg (ne_of_beq_false n10),if_pos (eq_of_beq e11),e2]
   exact yes _ h (by rw [eM h,if_neg (ne_of_beq_false n10),if_pos (eq_of_beq e11)])
  ·exact no (by rw [eN,if_neg (ne_of_beq_false n10),if_neg (ne_of_beq_false n11),e1,e2]; rfl)
  ·exact no (by rw [eN,if_neg (ne_of_beq_false n10),if_neg (ne_of_beq_false n11),e0,e1,e2]; rfl)
  all_goals
   have h : accNo s.K s.S t s.x = false := by
    rw [eN,if_neg (ne_of_beq_false n10),if_neg (ne_of_beq_false n11)]
    first
     | (rw [e2]; rfl)
     | (rw [e2,e1,e0]; rfl)
   refine ⟨fun e8 => ⟨hw,hw,st4P_ok (hI.a (.inl (eq_of_beq e8))) (yes _ h ?_)⟩,fun n8 => at4P_ok (hI.a9 (ne_of_beq_false n8) (ne_of_beq_false n10) (ne_of_beq_false n11)) ⟨hw,hw,yes _ h ?_⟩⟩
   ·rw [eM h,if_neg (ne_of_beq_false n10),if_neg (ne_of_beq_false n11),if_pos (eq_of_beq e8)]
   ·rw [eM h,if_neg (ne_of_beq_false n10),if_neg (ne_of_beq_false n11),if_neg (ne_of_beq_false n8)]
 refine ⟨hI.b,fun e => no ?_,fun e1 => ⟨fun e => no ?_,fun e2 => ⟨fun e3 => ⟨hI.lk,hI.op,fun e => no ?_,fun e4 => rest (qc e1) (qc e2) ?_⟩,fun e3 => rest (qc e1) (qc e2) (by rw [e3]; rfl)⟩⟩⟩
 ·simp only [accNo,hd,e,Bool.true_or]
 ·simp only [accNo,hd,e,Bool.true_or,Bool.or_true]
 ·have e3 : (s.S.th t).opn.length > 0 := by have := qb e3; omega
  simp only [accNo,hd,e,decide_eq_true e3,Bool.true_or,Bool.or_true,Bool.and_true]
 ·rw [e4,Bool.and_false]
end
theorem accFr (n t : Nat) (hn : n ≤ 3) : FrOk (accD n t 48) where
 len := fun s h hl => by
  have hl : h.length = 48 := hl
  show (mIn s.K n s.S h).length = 48
  rw [mIn_len _ _ _ _ (by omega),hl]
 ahead := fun s h j hl hj hf => mIn_get s.K n s.S h j hf
 behind := fun B hB r h j hl hj hf => by
  cases hB with
  | head => exact mIn_get r.1 n r.2.1 h j hf
  | tail _ h => cases h
theorem w1Ok : CtrOk F.S (lookC w1) := lookC_ok fun p h => by
 have h : p ∈ [_,_,_] := h
 simp only [List.mem_cons,List.not_mem_nil,or_false] at h
 rcases h with rfl | rfl | rfl
 ·exact adOk
 ·exact rgOk
 ·exact hoOk
theorem goAcc : CtrOk1 F.S 90 (goC w1 Tryz.f90 b90) := loopCtr_ok (body := b90) codOk noExt hookLow w1Ok Tryz.func90 rfl (by kernel_rfl) (by kernel_rfl) 2000 (fun _ _ => []) (fun _ _ => 0) (by kernel_rfl)
theorem acc_paid (n t : Nat) (he : ∀ s f,Go.Sy.Tree.holds (vcC (goC w1 Tryz.f90 b90) (accD n t 48) s (hOf f 48)) = acP n t 48 s f (accW s.K s.S t s.x)) (s : (accD n t 48).St) (hI : (accD n t 48).I s) (h : SH cod) (hl : h.length = 48) : Paid (vcC (goC w1 Tryz.f90 b90) (accD n t 48) s h) := by
 rw [hOf_is hl]
 refine ⟨?_⟩
 rw [he]
 exact acP_ok n t 48 s _ hI
theorem acc_of (n t : Nat) (hn : n ≤ 3) (he : ∀ s f,Go.Sy.Tree.holds (vcC (goC w1 Tryz.f90 b90) (accD n t 48) s (hOf f 48)) = acP n t 48 s f (accW s.K s.S t s.x)) : CtrOk1 F.S 90 (frCtrB (fun _ => true) (accD n t 48)) :=
 frCtrB_ok codOk _ _ (accFr n t hn) fun s hI h hl _ => ⟨_,goAcc,acc_paid n t he s hI h hl⟩
noncomputable def accCtr (n t : Nat) : Ctr cod := padCtr 48 (frCtrB (fun _ => true) (accD n t 48))
theorem accOk : ∀ n t,1 ≤ n → n ≤ 3 → t < n → CtrOk1 F.S 90 (accCtr n t)
 | 1,0,_,_,_ => padCtr_ok 48 (acc_of 1 0 (by decide) ac_10)
 | 2,0,_,_,_ => padCtr_ok 48 (acc_of 2 0 (by decide) ac_20)
 | 2,1,_,_,_ => padCtr_ok 48 (acc_of 2 1 (by decide) ac_21)
 | 3,0,_,_,_ => padCtr_ok 48 (acc_of 3 0 (by decide) ac_30)
 | 3,1,_,_,_ => padCtr_ok 48 (acc_of 3 1 (by decide) ac_31)
 | 3,2,_,_,_ => padCtr_ok 48 (acc_of 3 2 (by decide) ac_32)
end Go.Proofs.YtcholkmididfmaaGreatDoor

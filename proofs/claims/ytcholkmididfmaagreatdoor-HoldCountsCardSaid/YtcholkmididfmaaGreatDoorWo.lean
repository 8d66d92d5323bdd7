/- wake: its contract is paid. -/
import Derived.Test.YtcholkmididfmaaGreatDoorWk
import Derived.Test.YtcholkmididfmaaGreatDoorAd
namespace Go.Proofs.YtcholkmididfmaaGreatDoor
open Go.RowKit Go.Am Go.Sy
set_option linter.unusedVariables false
theorem mBase_len (K : MK) (n b : Nat) (S : MT) : (mBase K n b S).length = 5 := rfl
theorem mMid_len (n b : Nat) (h : SH cod) (hb : b = 5 ∨ 8 + 2 * n ≤ b) (hl : b ≤ h.length ∨ b = 5) : (mMid n b h).length = b - 5 := by
 unfold mMid
 rcases hb with rfl | hb
 ·rfl
 ·have : Nat.beq b 5 = false := by rw [Bool.eq_false_iff,Ne,Nat.beq_eq]; omega
  rw [this]
  simp only [cond_false,qo,List.length_replicate,List.length_take,List.length_drop]
  omega
theorem mFr_get (n b : Nat) (h A B : SH cod) (j : Nat) (hb : b = 5 ∨ 8 + 2 * n ≤ b) (hl : b + (3 + 2 * n) ≤ h.length) (hA : A.length = 5) (hB : B.length = 3 + 2 * n) (hf : mFootB n b j = false) : (A ++ mMid n b h ++ B ++ h.drop (b + (3 + 2 * n)))[j]? = h[j]? := by
 have hm := mMid_len n b h hb (.inl (by omega))
 have f1 : ¬ j < 8 + 2 * n := fun x => by rw [← Nat.blt_eq] at x; rw [mFootB,x] at hf; cases hf
 have f2 : ¬ (b ≤ j ∧ j < b + (3 + 2 * n)) := fun x => by
  have e1 : Nat.ble b j = true := by rw [Nat.ble_eq]; exact x.1
  have e2 : Nat.blt j (b + (3 + 2 * n)) = true := by rw [Nat.blt_eq]; exact x.2
  rw [mFootB,Bool.or_eq_false_iff,e1,e2] at hf
  cases hf.2
 have h1 : (A ++ mMid n b h).length = b := by rw [qo,hA,hm]; omega
 have h2 : (A ++ mMid n b h ++ B).length = b + (3 + 2 * n) := by rw [qo,h1,hB]
 rcases qm j b with hj | hj
 ·rw [List.append_assoc,qg (by rw [h1]; exact hj),qk (by rw [hA]; omega),hA]
  have : Nat.beq b 5 = false := by rw [Bool.eq_false_iff,Ne,Nat.beq_eq]; omega
  rw [mMid,this]
  simp only [cond_false]
  rw [qk (by rw [List.length_replicate]; omega),List.length_replicate,List.getElem?_take_of_lt (by omega),qw]
  congr 1
  omega
 ·rw [qk (by rw [h2]; omega),h2,qw]
  congr 1
  omega
theorem wkFr (n N b : Nat) (hb : b = 5 ∨ 8 + 2 * n ≤ b) (hn : b + (3 + 2 * n) ≤ N) : FrOk (wkCD n N b) where
 len := fun s h hl => by
  have hl : h.length = N := hl
  show (mInB s.K n b s.S h).length = N
  rw [mInB,qo,qo,qo,mMid_len n b h hb (.inl (by omega)),List.length_map,List.length_map,mLists_len,mBase_len,List.length_drop]
  omega
 ahead := fun s h j hl hj hf => by
  have hl : h.length = N := hl
  exact mFr_get n b h _ _ j hb (by omega) (by rw [List.length_map,mBase_len]) (by rw [List.length_map,mLists_len]) hf
 behind := fun B hB r h j hl hj hf => by
  have hl : h.length = N := hl
  have hj : j < N := hj
  cases hB with
  | head =>
   show (mOutB r.1 n b N r.2 h)[j]? = h[j]?
   rw [mOutB,qg (by rw [qo,qo,qo,mMid_len n b h hb (.inl (by omega)),List.length_map,List.length_replicate,mBase_len,List.length_drop]; omega)]
   exact mFr_get n b h _ _ j hb (by omega) (by rw [List.length_map,mBase_len]) (by rw [List.length_replicate]) hf
  | tail _ h => cases h
theorem goWk : CtrOk1 F.S 91 (goC [] Tryz.f91 b91) := loopCtr_ok (body := b91) codOk noExt hookLow (lookC_ok fun p h => by cases h) Tryz.func91 rfl (by kernel_rfl) (by kernel_rfl) 2000 (fun _ _ => []) (fun _ _ => 0) (by kernel_rfl)
def WkE (n N b : Nat) : Prop := ∀ (K : MK) (S : MT) (f : Nat → Option Ob) (c : Nat),c < 3 → Go.Sy.Tree.holds (vcC (goC [] Tryz.f91 b91) (wkCD n N b) ⟨K,S,c⟩ (hOf f N)) = wkP n N b ⟨K,S,c⟩ f (S.q c)
theorem wk_paid (n N b : Nat) (he : WkE n N b) (s : WkS) (hI : WkI n s) (h : SH cod) (hl : h.length = N) : Paid (vcC (goC [] Tryz.f91 b91) (wkCD n N b) s h) := by
 rw [hOf_is hl]
 refine ⟨?_⟩
 obtain ⟨K,S,c⟩ := s
 rw [he K S _ c hI.c]
 exact wkP_ok n N b ⟨K,S,c⟩ _ hI
theorem wk_of (n N b : Nat) (hb : b = 5 ∨ 8 + 2 * n ≤ b) (hn : b + (3 + 2 * n) ≤ N) (he : WkE n N b) : CtrOk1 F.S 91 (padCtr N (frCtrB (fun _ => true) (wkCD n N b))) :=
 padCtr_ok N (frCtrB_ok codOk _ _ (wkFr n N b hb hn) fun s hI h hl _ => ⟨_,goWk,wk_paid n N b he s hI h hl⟩)
def byLen : List (Nat × Ctr cod) → Ctr cod
 | [],_,_,_,_ => .stuck "so many names"
 | (N,c) :: l,wlo,args,h,K => bif Nat.ble h.length N then c wlo args h K else byLen l wlo args h K
theorem byLen_ok {S : AStat} {f : FuncId} : ∀ {l : List (Nat × Ctr cod)},(∀ p ∈ l,CtrOk1 S f p.2) → CtrOk1 S f (byLen l)
 | [],_ => fun E lo wlo args h H K av hh hS hA => (stuck_no hh).elim
 | (N,c) :: l,hc => fun E lo wlo args h H K av hh hS hA => by
  unfold byLen at hh
  cases hb : Nat.ble h.length N with
  | true => rw [hb] at hh; exact hc (N,c) List.mem_cons_self E lo wlo args h H K av hh hS hA
  | false => rw [hb] at hh; exact byLen_ok (fun p hp => hc p (List.mem_cons_of_mem _ hp)) E lo wlo args h H K av hh hS hA
noncomputable def wakeCtr (n : Nat) : Ctr cod := byLen [(48,padCtr 48 (frCtrB (fun _ => true) (wkCD n 48 5))),(64,padCtr 64 (frCtrB (fun _ => true) (wkCD n 64 48))),(80,padCtr 80 (frCtrB (fun _ => true) (wkCD n 80 64)))]
theorem wake_of (n : Nat) (hn : n ≤ 3) (h1 : WkE n 48 5) (h2 : WkE n 64 48) (h3 : WkE n 80 64) : CtrOk1 F.S 91 (wakeCtr n) := byLen_ok fun p hp => by
 simp only [List.mem_cons,List.not_mem_nil,or_false] at hp
 rcases hp with rfl | rfl | rfl
 ·exact wk_of n 48 5 (by omega) (by omega) h1
 ·exact wk_of n 64 48 (by omega) (by omega) h2
 ·exact wk_of n 80 64 (by omega) (by omega) h3
theorem wkE3 {n N b : Nat} (h0 : wkQ n N b 0) (h1 : wkQ n N b 1) (h2 : wkQ n N b 2) : WkE n N b := fun K S f c h => match c,h with | 0,_ => h0 K S f | 1,_ => h1 K S f | 2,_ => h2 K S f
theorem wakeOk : ∀ n,1 ≤ n → n ≤ 3 → CtrOk1 F.S 91 (wakeCtr n)
 | 1,_,_ => wake_of 1 (by decide) (wkE3 wk_10_48 wk_11_48 wk_12_48) (wkE3 wk_10_64 wk_11_64 wk_12_64) (wkE3 wk_10_80 wk_11_80 wk_12_80)
 | 2,_,_ => wake_of 2 (by decide) (wkE3 wk_20_48 wk_21_48 wk_22_48) (wkE3 wk_20_64 wk_21_64 wk_22_64) (wkE3 wk_20_80 wk_21_80 wk_22_80)
 | 3,_,_ => wake_of 3 (by decide) (wkE3 wk_30_48 wk_31_48 wk_32_48) (wkE3 wk_30_64 wk_31_64 wk_32_64) (wkE3 wk_30_80 wk_31_80 wk_32_80)
end Go.Proofs.YtcholkmididfmaaGreatDoor

/- Pick: the model of it. -/
import Derived.Test.YtcholkmididfmaaGreatDoorDs
namespace Go.Proofs.YtcholkmididfmaaGreatDoor
open Go.RowKit Go.Am Go.Sy
set_option linter.unusedVariables false
def allL (f : Nat → One) : Nat → List One
 | 0 => []
 | k + 1 => allL f k ++ [f k]
def viewM (K : MK) (n : Nat) (S : MT) : Mdl := ⟨K.c.engine,K.c.clock,K.c.stripes,K.c.reads,K.c.writes,K.c.retry,K.c.fuel,K.c.most,K.c.init,K.c.locks,K.c.conds,K.c.progs,K.m,S.w,S.o,allL S.th n,[S.q 0,S.q 1,S.q 2]⟩
def fuT (x : One) (fu : Int) : One := ⟨x.at_,fu,x.status,x.r0,x.r1,x.r2,x.r3,x.awake,x.opn,x.log⟩
def doneM (K : MK) (t : Nat) (S : MT) : MT := if (S.th t).status = 0 ∧ (S.th t).at_ ≥ (at3 K.c.progs t).length then setM S t (stT (S.th t) 1) else S
def goM (K : MK) (t : Nat) (S : MT) : MT :=
 if (S.th t).awake ≥ 0 then setM S t (awT (opT (S.th t) [⟨at0 K.c.conds (S.th t).awake,false⟩]) (-1))
 else if (S.th t).fuel = 0 then stopM S t 3
 else doesM K t (setM S t (fuT (S.th t) (IntKind.i64.wrap ((S.th t).fuel - 1)))) (at2 (at3 K.c.progs t) (S.th t).at_)
def pickM (K : MK) (n t : Nat) (S : MT) : MT := if canB (viewM K n S) t = true then doneM K t (goM K t S) else S
theorem allL_len (f : Nat → One) : ∀ n,(allL f n).length = n
 | 0 => rfl
 | n + 1 => by rw [allL,qo,allL_len f n]; rfl
theorem allL_get (f : Nat → One) : ∀ (n k : Nat),k < n → (allL f n)[k]? = some (f k)
 | n + 1,k,h => by
  rw [allL]
  rcases qm k n with hk | hk
  ·rw [qg (by rw [allL_len]; exact hk),allL_get f n k hk]
  ·have : k = n := by omega
   subst this
   rw [qk (by rw [allL_len]; exact hk),allL_len,Nat.sub_self]
   rfl
theorem allL_at {f : Nat → One} {n k : Nat} (h : k < n) : at12 (allL f n) (k : Int) = f k := by
 have hl : k < (allL f n).length := by rw [allL_len]; exact h
 rw [at12_get hl]
 have := allL_get f n k h
 rw [qt hl] at this
 exact Option.some.inj this
theorem allL_mem {f : Nat → One} : ∀ {n : Nat} {x : One},x ∈ allL f n ↔ ∃ k,k < n ∧ x = f k
 | 0,x => Iff.intro (fun h => by cases h) (fun h => by obtain ⟨k,h,_⟩ := h; omega)
 | n + 1,x => by
  rw [allL,List.mem_append,List.mem_singleton,allL_mem]
  constructor
  ·rintro (⟨k,h,e⟩ | e)
   ·exact ⟨k,by omega,e⟩
   ·exact ⟨n,by omega,e⟩
  ·rintro ⟨k,h,e⟩
   rcases qm k n with hk | hk
   ·exact .inl ⟨k,hk,e⟩
   ·obtain rfl : k = n := by omega
    exact .inr e
theorem updT_same (f : Nat → One) (t : Nat) (x : One) : updT f t x t = x := by rw [updT,Nat.beq_refl]; rfl
theorem updT_other (f : Nat → One) {t u : Nat} (x : One) (h : u ≠ t) : updT f t x u = f u := by
 have : Nat.beq u t = false := by rw [Bool.eq_false_iff,Ne,Nat.beq_eq]; exact h
 rw [updT,this]
 rfl
end Go.Proofs.YtcholkmididfmaaGreatDoor

/- What is built of blocks, sections of rising locks, conditions of their locks, may be: the plain law. -/
import Derived.Test.YtcholkmididfmaaGreatDoorPi
namespace Go.Proofs.YtcholkmididfmaaGreatDoor
open Go.RowKit Go.Am Go.Sy
set_option linter.unusedVariables false
set_option linter.unusedSimpArgs false
def astep (op : Int) (σ : List (Int × Bool)) : Option (List (Int × Bool)) :=
 if op = 18 ∨ op = 21 ∨ op = 13 then some ((op,false) :: σ)
 else if opener op = 0 then some σ
 else match σ with
  | [] => none
  | (o,f) :: τ => if o = opener op then (if op = 19 then (if f = true then none else some ((o,true) :: τ)) else some τ) else none
def arun : List Instr → List (Int × Bool) → Option (List (Int × Bool))
 | [],σ => some σ
 | x :: p,σ => match astep x.op σ with
  | none => none
  | some τ => arun p τ
def wrun (c : Config) : List Instr → WS → Option WS
 | [],w => some w
 | x :: p,w => if wcode c x w = 0 then wrun c p (wnext x w) else none
theorem arun_append : ∀ {p q : List Instr} {σ τ : List (Int × Bool)},arun p σ = some τ → arun (p ++ q) σ = arun q τ
 | [],q,σ,τ,h => by cases h; rfl
 | x :: p,q,σ,τ,h => by
  show (match astep x.op σ with | none => none | some τ => arun (p ++ q) τ) = _
  unfold arun at h
  cases hs : astep x.op σ with
  | none => rw [hs] at h; cases h
  | some ρ => rw [hs] at h; exact arun_append h
theorem wrun_append {c : Config} : ∀ {p q : List Instr} {w v : WS},wrun c p w = some v → wrun c (p ++ q) w = wrun c q v
 | [],q,w,v,h => by cases h; rfl
 | x :: p,q,w,v,h => by
  show (if wcode c x w = 0 then wrun c (p ++ q) (wnext x w) else none) = _
  unfold wrun at h
  by_cases hs : wcode c x w = 0
  ·rw [if_pos hs] at h ⊢; exact wrun_append h
  ·rw [if_neg hs] at h; cases h
structure GoodP (c : Config) (p : List Instr) : Prop where
 may : p.all mayB = true
 bal : ∀ σ,arun p σ = some σ
 walk : ∀ tp lp,(wrun c p ⟨[],tp,lp⟩).map (·.o) = some []
theorem GoodP.append {c : Config} {p q : List Instr} (h : GoodP c p) (k : GoodP c q) : GoodP c (p ++ q) where
 may := by rw [List.all_append,h.may,k.may]; rfl
 bal := fun σ => by rw [arun_append (h.bal σ),k.bal]
 walk := fun tp lp => by
  obtain ⟨w,h1,h2⟩ := Option.map_eq_some_iff.1 (h.walk tp lp)
  obtain ⟨o,tp',lp'⟩ := w
  have h2 : o = [] := h2
  subst h2
  rw [wrun_append h1]
  exact k.walk tp' lp'
theorem drop_cons {p : List Instr} {i : Nat} (h : i < p.length) : p.drop i = p[i] :: p.drop (i + 1) := List.drop_eq_getElem_cons h
theorem may_good {p : List Instr} (hm : p.all mayB = true) : ∀ (r i : Nat),i + r = p.length → mayGo p r i = -1
 | 0,i,h => rfl
 | r + 1,i,h => by
  have hi : i < p.length := by omega
  have e : at2 p (i : Int) = p[i] := at2_get hi
  rw [mayGo,e,if_pos (List.all_eq_true.1 hm _ (List.getElem_mem hi))]
  exact may_good hm r (i + 1) (by omega)
theorem wgo_good {c : Config} {t : Nat} {p : List Instr} : ∀ (r i : Nat) (w w' : WS),i + r = p.length → wrun c (p.drop i) w = some w' → wgo c t p r i w = (0,0,0)
 | 0,i,w,w',h,hw => rfl
 | r + 1,i,w,w',h,hw => by
  have hi : i < p.length := by omega
  have e : at2 p (i : Int) = p[i] := at2_get hi
  rw [drop_cons hi,wrun] at hw
  rw [wgo,e]
  by_cases hs : wcode c p[i] w = 0
  ·rw [if_pos hs] at hw ⊢
   exact wgo_good r (i + 1) _ w' (by omega) hw
  ·rw [if_neg hs] at hw; cases hw
def BRel (p : List Instr) : List Blk → List (Int × Bool) → Prop
 | [],[] => True
 | b :: s,(o,f) :: σ => (at2 p b.a).op = o ∧ (f = false → b.l = b.a) ∧ BRel p s σ
 | _,_ => False
theorem lst_last (s : List Blk) (b : Blk) : lst (s ++ [b]) = b := by
 have h : s.length < (s ++ [b]).length := by simp
 have e : lst (s ++ [b]) = (s ++ [b])[s.length] := by
  unfold lst
  rw [show (((s ++ [b]).length : Nat) : Int) - 1 = (s.length : Int) by simp]
  exact at8_get h
 rw [e]
 simp
theorem mates_good {p : List Instr} : ∀ (r i : Nat) (m : List Int) (s : List Blk) (σ : List (Int × Bool)),i + r = p.length → BRel p s.reverse σ → arun (p.drop i) σ = some [] → (mgo p r i ⟨m,s⟩).2 = -1
 | 0,i,m,s,σ,h,hR,ha => by
  rw [List.drop_of_length_le (by omega)] at ha
  cases ha
  have hs : s = [] := by
   cases hs : s.reverse with
   | nil => simpa using hs
   | cons b t => rw [hs] at hR; exact hR.elim
  subst hs
  rfl
 | r + 1,i,m,s,σ,h,hR,ha => by
  have hi : i < p.length := by omega
  have e : at2 p (i : Int) = p[i] := at2_get hi
  rw [drop_cons hi,arun] at ha
  cases hs : astep p[i].op σ with
  | none => rw [hs] at ha; cases ha
  | some τ =>
   rw [hs] at ha
   have go : ∀ (m' : List Int) (s' : List Blk),mstep p i ⟨m,s⟩ = some ⟨m',s'⟩ → BRel p s'.reverse τ → (mgo p (r + 1) i ⟨m,s⟩).2 = -1 := by
    intro m' s' h1 h2
    rw [mgo,h1]
    exact mates_good r (i + 1) m' s' τ (by omega) h2 ha
   unfold astep at hs
   by_cases k1 : p[i].op = 18 ∨ p[i].op = 21 ∨ p[i].op = 13
   ·rw [if_pos k1] at hs
    cases hs
    refine go _ _ (ms_open (by rw [e]; exact k1)) ?_
    rw [List.reverse_append]
    exact ⟨by rw [e],fun _ => rfl,hR⟩
   ·rw [if_neg k1] at hs
    by_cases k2 : opener p[i].op = 0
    ·rw [if_pos k2] at hs
     cases hs
     exact go _ _ (ms_other (by rw [e]; exact k1) (by rw [e]; exact k2)) hR
    ·rw [if_neg k2] at hs
     cases σ with
     | nil => cases hs
     | cons of σ' =>
      obtain ⟨o,f⟩ := of
      cases hr : s.reverse with
      | nil => rw [hr] at hR; exact hR.elim
      | cons b t =>
       rw [hr] at hR
       obtain ⟨r1,r2,r3⟩ := hR
       have es : s = t.reverse ++ [b] := by
        have := congrArg List.reverse hr
        simpa using this
       have el : lst s = b := by rw [es]; exact lst_last _ _
       have hl : s.length - 1 = t.reverse.length := by rw [es]; simp
       have et : s.take (s.length - 1) = t.reverse := by rw [hl,es,List.take_left']; rfl
       simp only at hs
       by_cases k3 : o = opener p[i].op
       ·rw [if_pos k3] at hs
        have op' := op_of (p := p) (i := i) (by rw [e]; exact k2)
        rw [e] at op'
        by_cases k4 : p[i].op = 19
        ·rw [if_pos k4] at hs
         cases f with
         | true => cases hs
         | false =>
          cases hs
          have nb : ¬ msBad p i s := by
           unfold msBad
           rw [el,e]
           rintro (q | q | ⟨_,q⟩)
           ·rw [q] at es; simp at es
           ·exact q (r1.trans k3)
           ·exact q (r2 rfl)
          refine go _ _ (ms_else (by rw [e]; exact k2) nb (by rw [e]; exact k4)) ?_
          rw [el,hl,es,List.set_append_right _ _ (qf _),Nat.sub_self]
          show BRel p (t.reverse ++ [_]).reverse _
          rw [List.reverse_append,List.reverse_reverse]
          exact ⟨r1,nofun,r3⟩
        ·rw [if_neg k4] at hs
         cases hs
         have nb : ¬ msBad p i s := by
          unfold msBad
          rw [el,e]
          rintro (q | q | ⟨q,_⟩)
          ·rw [q] at es; simp at es
          ·exact q (r1.trans k3)
          ·exact k4 q
         have done : BRel p (s.take (s.length - 1)).reverse τ := by rw [et,List.reverse_reverse]; exact r3
         by_cases k5 : p[i].op = 22 ∨ p[i].op = 14
         ·exact go _ _ (ms_back (by rw [e]; exact k2) nb (by rw [e]; exact k5)) done
         ·exact go _ _ (ms_end (by rw [e]; exact k2) nb (by rw [e]; exact k4) (by rw [e]; exact k5)) done
       ·rw [if_neg k3] at hs; cases hs
theorem progP_good {c : Config} {t : Nat} {p : List Instr} (h : GoodP c p) (hl : p.length ≤ 48) : progP c t p = (0,0,0) := by
 have h1 := may_good h.may p.length 0 (Nat.zero_add _)
 have h2 : (matesR p).2 = -1 := mates_good p.length 0 (List.replicate p.length 0) [] [] (Nat.zero_add _) trivial (h.bal [])
 obtain ⟨w,h3,_⟩ := Option.map_eq_some_iff.1 (h.walk 0 0)
 rw [progP,if_neg (by omega),h1,if_neg (by decide),h2,if_neg (by decide)]
 exact wgo_good p.length 0 _ w (Nat.zero_add _) h3
end Go.Proofs.YtcholkmididfmaaGreatDoor
/- What is built may be: its parts, and its numbers. -/
namespace Go.Proofs.YtcholkmididfmaaGreatDoor
open Go.RowKit Go.Am Go.Sy
set_option linter.unusedVariables false
set_option linter.unusedSimpArgs false
section
variable {k : K8} {ps : List (List Instr)}
end
end Go.Proofs.YtcholkmididfmaaGreatDoor

/- Library, part 4: SyLe2, SyFn, SyCtr, SyTop, SySeal, SyLoop, SySum, SyFr, SyPad. General texts of the author of this claim: an idealised machine and a symbolic one, both proved sound over the model. -/
import Derived.Test.YtmjjljngaefpaaaLib2
import Derived.Test.YtmjjljngaefpaaaLib3
set_option linter.unusedVariables false
set_option linter.unusedSimpArgs false
/- One symbolic state is a case of another one: it is sound. Generic: over any program. -/
namespace Go.Sy
open Go.Am
set_option linter.unusedVariables false
set_option linter.unusedSimpArgs false
variable {C : Codec} {E : Env}
def ObjPre (h : SH C) (fh : List (Obj C.T)) (W1 : List (SV C.T × SV C.T)) (j id : Nat) : Prop :=
 (∃ es es0,h[id]? = some (some (.mp es)) ∧ fh[j]? = some (.mp es0) ∧ ((mpKeys es es0 = true ∧ W1 = mpZip es es0) ∨ (es.map (·.1) = es0.map (·.1) ∧ W1 = (es.map (·.2)).zip (es0.map (·.2))))) ∨
 (∃ cs cs0,h[id]? = some (some (.cells cs)) ∧ fh[j]? = some (.cells cs0) ∧ cs.length = cs0.length ∧ W1 = cs.zip cs0) ∨
 (∃ n l full full0 root,h[id]? = some (some (.rows n l full root)) ∧ fh[j]? = some (.rows n l full0 j) ∧ (full0 = true → full = true))
theorem mpNeed_ok {t : Tree} : ∀ {es es0 : List (Int × SV C.T)},(mpNeed es es0 t).holds → es.map (·.1) = es0.map (·.1) ∧ t.holds
 | [],[],h => ⟨rfl,h⟩
 | [],_ :: _,h => (stuck_no h).elim
 | _ :: _,[],h => (stuck_no h).elim
 | (n,x) :: es,(m,y) :: es0,h => by
  obtain ⟨e,h⟩ := h
  have e : n = m := e
  obtain ⟨h1,h2⟩ := mpNeed_ok h
  exact ⟨by simp only [List.map_cons,e,h1],h2⟩
theorem bindX_ok {fh : List (Obj C.T)} {h : SH C} {τ : Ren} {j id : Nat} {K : Ren → List (SV C.T × SV C.T) → Tree} (hh : (bindX fh h τ j id K).holds) (hτ : RenOk τ) :
 ∃ τ1 W1,(K τ1 W1).holds ∧ RenLe τ τ1 ∧ τ1[j]? = some (some id) ∧ RenOk τ1 ∧ ∀ (j' id' : Nat),τ1[j']? = some (some id') → τ[j']? = some (some id') ∨ (j' = j ∧ id' = id ∧ ObjPre h fh W1 j id) := by
 unfold bindX at hh
 split at hh
 ·rename_i id' e
  cases hb : Nat.beq id' id with
  | false => rw [hb] at hh; exact (stuck_no hh).elim
  | true =>
   rw [hb] at hh
   rw [Nat.beq_eq] at hb
   subst hb
   exact ⟨τ,[],hh,RenLe.refl τ,e,hτ,fun j' id' h => .inl h⟩
 ·rename_i e
  have hj : j < τ.length := lt_of_some e
  cases hc : τ.contains (some id) with
  | true => rw [hc] at hh; exact (stuck_no hh).elim
  | false =>
   rw [hc] at hh
   simp only [cond_false] at hh
   have hfree : ∀ j' : Nat,τ[j']? ≠ some (some id) := by
    intro j' e'
    have : some id ∈ τ := List.mem_of_getElem? e'
    have h2 : τ.contains (some id) = true := by simpa using this
    rw [hc] at h2
    cases h2
   have get : ∀ j' : Nat,(τ.set j (some id))[j']? = if j = j' then some (some id) else τ[j']? := by
    intro j'
    rw [List.getElem?_set]
    by_cases e2 : j = j'
    ·subst e2
     rw [if_pos rfl,if_pos rfl,if_pos hj]
    ·rw [if_neg e2,if_neg e2]
   have main : RenLe τ (τ.set j (some id)) ∧ (τ.set j (some id))[j]? = some (some id) ∧ RenOk (τ.set j (some id)) ∧ ∀ (j' id' : Nat),(τ.set j (some id))[j']? = some (some id') → τ[j']? = some (some id') ∨ (j' = j ∧ id' = id) := by
    refine ⟨⟨by simp,fun j' id' h => ?_⟩,by rw [get,if_pos rfl], ?_, ?_⟩
    ·rw [get]
     split
     ·rename_i e2; subst e2; rw [e] at h; cases h
     ·exact h
    ·intro a b i ha hb
     rw [get] at ha hb
     split at ha <;> split at hb
     ·omega
     ·cases ha; exact (hfree _ hb).elim
     ·cases hb; exact (hfree _ ha).elim
     ·exact hτ a b i ha hb
    ·intro j' id' h
     rw [get] at h
     split at h
     ·rename_i e2; cases h; exact .inr ⟨e2.symm,rfl⟩
     ·exact .inl h
   split at hh
   ·rename_i cs cs0 h1 h2
    cases hl : Nat.beq cs.length cs0.length with
    | false => rw [hl] at hh; exact (stuck_no hh).elim
    | true =>
     rw [hl] at hh
     rw [Nat.beq_eq] at hl
     exact ⟨_,_,hh,main.1,main.2.1,main.2.2.1,fun j' id' h => (main.2.2.2 j' id' h).imp_right fun ⟨p,q⟩ => ⟨p,q,.inr (.inl ⟨cs,cs0,hget_some h1,h2,hl,rfl⟩)⟩⟩
   ·rename_i es es0 h1 h2
    cases hq : mpPos es es0 with
    | true =>
     rw [hq] at hh
     obtain ⟨hl,hh⟩ := mpNeed_ok hh
     exact ⟨_,_,hh,main.1,main.2.1,main.2.2.1,fun j' id' h => (main.2.2.2 j' id' h).imp_right fun ⟨p,q⟩ => ⟨p,q,.inl ⟨es,es0,hget_some h1,h2,.inr ⟨hl,rfl⟩⟩⟩⟩
    | false =>
    rw [hq] at hh
    cases hl : mpKeys es es0 with
    | false => rw [hl] at hh; exact (stuck_no hh).elim
    | true =>
     rw [hl] at hh
     exact ⟨_,_,hh,main.1,main.2.1,main.2.2.1,fun j' id' h => (main.2.2.2 j' id' h).imp_right fun ⟨p,q⟩ => ⟨p,q,.inl ⟨es,es0,hget_some h1,h2,.inl ⟨hl,rfl⟩⟩⟩⟩
   ·rename_i n l full root m l0 full0 root0 h1 h2
    split at hh
    ·rename_i em
     subst em
     cases hl : (Nat.beq root0 j && (!full0 || full)) with
     | false => rw [hl] at hh; exact (stuck_no hh).elim
     | true =>
      rw [hl] at hh
      simp only [cond_true] at hh
      obtain ⟨he,hk⟩ := hh
      rw [Bool.and_eq_true,Nat.beq_eq] at hl
      obtain ⟨rfl,hfull⟩ := hl
      have he : l = l0 := he
      subst he
      exact ⟨_,_,hk,main.1,main.2.1,main.2.2.1,fun j' id' h => (main.2.2.2 j' id' h).imp_right fun ⟨p,q⟩ => ⟨p,q,.inr (.inr ⟨n,l,full,full0,root,hget_some h1,h2,fun hf => by
       rw [hf] at hfull
       simpa using hfull⟩)⟩⟩
    ·exact (stuck_no hh).elim
   ·exact (stuck_no hh).elim
 ·exact (stuck_no hh).elim
def SlOk (E : Env) (h : SH C) (H : Heap) (Sl : Nat → List AVal → Prop) : Prop := ∀ b cs,Sl b cs → H[b]? = some (some (.cells cs)) ∧ ∀ (id : Nat) (o : Obj C.T),h[id]? = some (some o) → E.β id ≠ some b
theorem ObjPre.good {E' : Env} {h h' : SH C} {fh : List (Obj C.T)} {W1 : List (SV C.T × SV C.T)} {τ' : Ren} {Sl : Nat → List AVal → Prop} {j id : Nat} (hp : ObjPre h fh W1 j id) (hk : h'[id]? = h[id]?) (hg : ∀ p,p ∈ W1 → Good E' τ' Sl p) : ObjGood E' h' fh τ' Sl j id := by
 rcases hp with ⟨es,es0,h1,h2,⟨h3,rfl⟩ | ⟨h3,rfl⟩⟩ | ⟨cs,cs0,h1,h2,h3,rfl⟩ | ⟨n,l,full,full0,root,h1,h2,h3⟩
 ·exact .inl ⟨es,es0,by rw [hk]; exact h1,h2,.inl ⟨h3,hg⟩⟩
 ·exact .inl ⟨es,es0,by rw [hk]; exact h1,h2,.inr ⟨h3,hg⟩⟩
 ·exact .inr (.inl ⟨cs,cs0,by rw [hk]; exact h1,h2,h3,hg⟩)
 ·exact .inr (.inr ⟨n,l,full,full0,root,by rw [hk]; exact h1,h2,h3⟩)
def LeOut (fh : List (Obj C.T)) (W : List (SV C.T × SV C.T)) (E : Env) (lo : Nat) (h : SH C) (H : Heap) (τ : Ren) (Sl : Nat → List AVal → Prop) (K : Ren → SH C → Tree) : Prop :=
 ∃ E' τ' h' Sl',LeN h.length H.length E E' ∧ h.length ≤ h'.length ∧ SimH E' lo 0 h' H ∧ RenOk τ' ∧ RenLe τ τ' ∧ (K τ' h').holds ∧ (∀ p,p ∈ W → Good E' τ' Sl' p) ∧ (∀ (j id : Nat),τ'[j]? = some (some id) → τ[j]? = some (some id) ∨ ObjGood E' h' fh τ' Sl' j id) ∧ (∀ (j id : Nat),τ[j]? = some (some id) → h'[id]? = h[id]?) ∧ SlOk E' h' H Sl' ∧ (∀ b cs,Sl b cs → Sl' b cs)
theorem LeOut.cons {fh : List (Obj C.T)} {W : List (SV C.T × SV C.T)} {p : SV C.T × SV C.T} {lo : Nat} {h : SH C} {H : Heap} {τ : Ren} {Sl : Nat → List AVal → Prop} {K : Ren → SH C → Tree} (h1 : LeOut fh W E lo h H τ Sl K) (hg : ∀ E' τ' Sl',E.le E' → RenLe τ τ' → (∀ q,q ∈ W → Good E' τ' Sl' q) → Good E' τ' Sl' p) : LeOut fh (p :: W) E lo h H τ Sl K := by
 obtain ⟨E',τ',h',Sl',k1,k2,k3,k4,k5,k6,k7,k8,k9,ks⟩ := h1
 refine ⟨E',τ',h',Sl',k1,k2,k3,k4,k5,k6,fun q hq => ?_,k8,k9,ks⟩
 rcases List.mem_cons.1 hq with rfl | hq
 ·exact hg E' τ' Sl' k1.le k5 k7
 ·exact k7 q hq
theorem LeOut.sub {fh : List (Obj C.T)} {W1 W : List (SV C.T × SV C.T)} {p : SV C.T × SV C.T} {lo : Nat} {h : SH C} {H : Heap} {τ : Ren} {Sl : Nat → List AVal → Prop} {K : Ren → SH C → Tree} (h1 : LeOut fh (W1 ++ W) E lo h H τ Sl K) (hg : ∀ E' τ' Sl',E.le E' → RenLe τ τ' → (∀ q,q ∈ W1 → Good E' τ' Sl' q) → Good E' τ' Sl' p) : LeOut fh (p :: W) E lo h H τ Sl K := by
 obtain ⟨E',τ',h',Sl',k1,k2,k3,k4,k5,k6,k7,k8,k9,ks⟩ := h1
 refine ⟨E',τ',h',Sl',k1,k2,k3,k4,k5,k6,fun q hq => ?_,k8,k9,ks⟩
 rcases List.mem_cons.1 hq with rfl | hq
 ·exact hg E' τ' Sl' k1.le k5 fun q hq => k7 q (List.mem_append_left _ hq)
 ·exact k7 q (List.mem_append_right _ hq)
theorem LeOut.bind {fh : List (Obj C.T)} {W1 W : List (SV C.T × SV C.T)} {p : SV C.T × SV C.T} {lo j id : Nat} {h : SH C} {H : Heap} {τ τ1 : Ren} {Sl : Nat → List AVal → Prop} {K : Ren → SH C → Tree} (h1 : LeOut fh (W1 ++ W) E lo h H τ1 Sl K) (hle : RenLe τ τ1) (hj : τ1[j]? = some (some id))
 (hnew : ∀ (j' id' : Nat),τ1[j']? = some (some id') → τ[j']? = some (some id') ∨ (j' = j ∧ id' = id ∧ ObjPre h fh W1 j id)) (hg : ∀ E' τ' Sl',E.le E' → τ'[j]? = some (some id) → Good E' τ' Sl' p) : LeOut fh (p :: W) E lo h H τ Sl K := by
 obtain ⟨E',τ',h',Sl',k1,k2,k3,k4,k5,k6,k7,k8,k9,ks⟩ := h1
 refine ⟨E',τ',h',Sl',k1,k2,k3,k4,hle.trans k5,k6,fun q hq => ?_,fun j' id' h2 => ?_,fun j' id' h2 => k9 j' id' (hle.2 j' id' h2),ks⟩
 ·rcases List.mem_cons.1 hq with rfl | hq
  ·exact hg E' τ' Sl' k1.le (k5.2 j id hj)
  ·exact k7 q (List.mem_append_right _ hq)
 ·rcases k8 j' id' h2 with h3 | h3
  ·rcases hnew j' id' h3 with h4 | ⟨rfl,rfl,h4⟩
   ·exact .inl h4
   ·exact .inr (h4.good (k9 _ _ h3) fun q hq => k7 q (List.mem_append_left _ hq))
  ·exact .inr h3
theorem SlOk.put {E2 : Env} {h h2 : SH C} {H : Heap} {Sl : Nat → List AVal → Prop} (hs : SlOk E h H Sl) (hold : ∀ i,i < h.length → E2.β i = E.β i) (hn : ∀ (i : Nat) (o : Obj C.T),h2[i]? = some (some o) → (i < h.length ∧ ∃ o',h[i]? = some (some o')) ∨ E2.β i = none ∨ ∃ (i' : Nat) (o' : Obj C.T),h[i']? = some (some o') ∧ E2.β i = E.β i') : SlOk E2 h2 H Sl := by
 intro b cs hb
 refine ⟨(hs b cs hb).1,fun i o hi e => ?_⟩
 rcases hn i o hi with ⟨h1,o',h2⟩ | h1 | ⟨i',o',h1,h2⟩
 ·rw [hold i h1] at e
  exact (hs b cs hb).2 i o' h2 e
 ·rw [h1] at e; cases e
 ·rw [h2] at e
  exact (hs b cs hb).2 i' o' h1 e
theorem SimH.drop {lo wlo : Nat} {h : SH C} {H : Heap} (hS : SimH E lo wlo h H) (id : Nat) : SimH E lo wlo (h.set id none) H := by
 have hold : ∀ {i : Nat} {o : Obj C.T},(h.set id none)[i]? = some (some o) → h[i]? = some (some o) := by
  intro i o hi
  rw [List.getElem?_set] at hi
  split at hi
  ·split at hi <;> cases hi
  ·exact hi
 exact ⟨fun i o hi => hS.obj i o (hold hi),fun i i' o o' b hi hi' => hS.inj i i' o o' b (hold hi) (hold hi'),fun b cs hf => ⟨(hS.fr b cs hf).1,fun i o hi => (hS.fr b cs hf).2 i o (hold hi)⟩,fun i hi => hS.fresh i (by simpa using hi),hS.low,hS.bnd,hS.own,hS.βω,by simpa using hS.wl,hS.ll⟩
theorem mp_zip {τ : Ren} {Sl : Nat → List AVal → Prop} {es es0 : List (Int × SV C.T)} {as : List (AVal × AVal)} (hk : mpKeys es es0 = true) (h : ∀ p,p ∈ mpZip es es0 → Good E τ Sl p) (hE : MpOk E es as) : MpOk (E.via τ Sl) es0 as := by
 simp only [mpKeys,Bool.and_eq_true,List.all_eq_true,List.any_eq_true,beq_iff_eq] at hk
 refine ⟨hE.keys,nodupI_ok hk.2,fun n x hx => ?_,fun n v hv => ?_⟩
 ·have hp := h _ (List.mem_map.2 ⟨(n,x),hx,rfl⟩)
  simp only at hp
  cases hf : es.find? fun p => p.1 == n with
  | some p =>
   rw [hf] at hp
   have hm := List.mem_of_find?_eq_some hf
   have hn := List.find?_some hf
   simp only [beq_iff_eq] at hn
   obtain ⟨m,y⟩ := p
   simp only at hn
   subst hn
   rcases hE.val m y hm with ⟨v,h1,h2⟩ | ⟨h1,h2⟩
   ·exact .inl ⟨v,h1,hp v h2⟩
   ·exact .inr ⟨h1,hp _ h2⟩
  | none =>
   rw [hf] at hp
   rw [List.find?_eq_none] at hf
   refine .inr ⟨?_,hp _ (.a _)⟩
   cases hv : mpAt n as with
   | none => rfl
   | some v =>
    obtain ⟨y,hy⟩ := hE.dom n v hv
    exact (hf _ hy (by simp)).elim
 ·obtain ⟨y,hy⟩ := hE.dom n v hv
  obtain ⟨q,hq,e⟩ := hk.1 _ hy
  obtain ⟨m,x⟩ := q
  simp only at e
  subst e
  exact ⟨x,hq⟩
theorem mp_pos {τ : Ren} {Sl : Nat → List AVal → Prop} {es es0 : List (Int × SV C.T)} {as : List (AVal × AVal)} (hk : es.map (·.1) = es0.map (·.1)) (h : ∀ p,p ∈ (es.map (·.2)).zip (es0.map (·.2)) → Good E τ Sl p) (hE : MpOk E es as) : MpOk (E.via τ Sl) es0 as := by
 refine ⟨hE.keys,by rw [← hk]; exact hE.nodup,fun n x hx => ?_,fun n v hv => ?_⟩
 ·obtain ⟨i,hi⟩ := List.mem_iff_getElem?.1 hx
  have h1 : (es0.map (·.1))[i]? = some n := by rw [List.getElem?_map,hi]; rfl
  rw [← hk,List.getElem?_map] at h1
  cases hq : es[i]? with
  | none => rw [hq] at h1; cases h1
  | some q =>
   rw [hq] at h1
   obtain ⟨m,y⟩ := q
   simp only [Option.map_some,Option.some.injEq] at h1
   subst h1
   have hp := h (y,x) (by
    refine List.mem_of_getElem? (i := i) ?_
    rw [List.getElem?_zip_eq_some]
    exact ⟨by rw [List.getElem?_map,hq]; rfl,by rw [List.getElem?_map,hi]; rfl⟩)
   rcases hE.val m y (List.mem_of_getElem? hq) with ⟨v,h1,h2⟩ | ⟨h1,h2⟩
   ·exact .inl ⟨v,h1,hp v h2⟩
   ·exact .inr ⟨h1,hp _ h2⟩
 ·obtain ⟨y,hy⟩ := hE.dom n v hv
  have : n ∈ es.map (·.1) := List.mem_map.2 ⟨_,hy,rfl⟩
  rw [hk] at this
  obtain ⟨⟨m,x⟩,hx,e⟩ := List.mem_map.1 this
  simp only at e
  subst e
  exact ⟨x,hx⟩
theorem leW_ok (hC : CodecOk C) {fh : List (Obj C.T)} {lo : Nat} {H : Heap} {K : Ren → SH C → Tree} : ∀ {n : Nat} {W : List (SV C.T × SV C.T)} {E : Env} {h : SH C} {τ : Ren} {Sl : Nat → List AVal → Prop},(leW fh n W h τ K).holds → SimH E lo 0 h H → RenOk τ → (∀ (j id : Nat),τ[j]? = some (some id) → id < h.length) → SlOk E h H Sl → LeOut fh W E lo h H τ Sl K
 | 0,W,E,h,τ,Sl,hh,hS,hτ,hv,hs => (stuck_no hh).elim
 | n + 1,[],E,h,τ,Sl,hh,hS,hτ,hv,hs => ⟨E,τ,h,Sl,LeN.refl _ _,Nat.le_refl _,hS,hτ,RenLe.refl _,hh,fun p hp => by simp at hp,fun j id h => .inl h,fun j id h => rfl,hs,fun _ _ h => h⟩
 | n + 1,(x,v0) :: W,E,h,τ,Sl,hh,hS,hτ,hv,hs => by
  simp only [leW] at hh
  have ih := fun {W : List (SV C.T × SV C.T)} {E : Env} {h : SH C} {τ : Ren} {Sl : Nat → List AVal → Prop} (h1 : (leW fh n W h τ K).holds) (h2 : SimH E lo 0 h H) (h3 : RenOk τ) (h4 : ∀ (j id : Nat),τ[j]? = some (some id) → id < h.length) (h5 : SlOk E h H Sl) => leW_ok hC (n := n) h1 h2 h3 h4 h5
  have pre : ∀ {h : SH C} {τ1 : Ren} {j id : Nat} {W1 : List (SV C.T × SV C.T)},(∀ (j id : Nat),τ[j]? = some (some id) → id < h.length) → (∀ (j' id' : Nat),τ1[j']? = some (some id') → τ[j']? = some (some id') ∨ (j' = j ∧ id' = id ∧ ObjPre h fh W1 j id)) → ∀ (j id : Nat),τ1[j]? = some (some id) → id < h.length := by
   intro h τ1 j id W1 hv h5 j' id' hj
   rcases h5 j' id' hj with h6 | ⟨rfl,rfl,h6⟩
   ·exact hv j' id' h6
   ·rcases h6 with ⟨es,es0,h7,_⟩ | ⟨cs,cs0,h7,_⟩ | ⟨n,l,full,full0,root,h7,_⟩ <;> exact lt_of_some h7
  have bind : ∀ {j id : Nat},(bindX fh h τ j id fun τ' W' => leW fh n (W' ++ W) h τ' K).holds → (∀ E' τ' Sl',E.le E' → τ'[j]? = some (some id) → Good E' τ' Sl' (x,v0)) → LeOut fh ((x,v0) :: W) E lo h H τ Sl K := by
   intro j id hb hg
   obtain ⟨τ1,W1,h1,h2,h3,h4,h5⟩ := bindX_ok hb hτ
   exact (ih h1 hS h4 (pre hv h5) hs).bind h2 h3 h5 hg
  split at hh
  ·exact (ih hh hS hτ hv hs).cons fun E' τ' Sl' _ _ _ a _ => .any
  ·rename_i v
   split at hh
   ·rename_i v' hl
    obtain ⟨rfl,hk⟩ := hh
    refine (ih hk hS hτ hv hs).cons fun E' τ' Sl' _ _ _ a ha => ?_
    rw [litV_ok ha hl]
    exact .a _
   ·split at hh
    ·rename_i k m
     split at hh
     ·rename_i k' m' hi
      split at hh
      ·rename_i hk
       subst hk
       obtain ⟨rfl,hk⟩ := hh
       refine (ih hk hS hτ hv hs).cons fun E' τ' Sl' _ _ _ a ha => ?_
       rw [intOf_ok ha hi]
       exact .a _
      ·exact (stuck_no hh).elim
     ·exact (stuck_no hh).elim
    ·split at hh
     ·rename_i s' hi
      obtain ⟨rfl,hk⟩ := hh
      refine (ih hk hS hτ hv hs).cons fun E' τ' Sl' _ _ _ a ha => ?_
      rw [strOf_ok ha hi]
      exact .a _
     ·exact (stuck_no hh).elim
    ·exact (stuck_no hh).elim
  ·rename_i k m
   split at hh
   ·rename_i k' m' hi
    split at hh
    ·rename_i hk
     subst hk
     obtain ⟨rfl,hk⟩ := hh
     refine (ih hk hS hτ hv hs).cons fun E' τ' Sl' _ _ _ a ha => ?_
     rw [intOf_ok ha hi]
     exact .i _ _
    ·exact (stuck_no hh).elim
   ·exact (stuck_no hh).elim
  ·split at hh
   ·rename_i t' hi
    obtain ⟨rfl,hk⟩ := hh
    refine (ih hk hS hτ hv hs).cons fun E' τ' Sl' _ _ _ a ha => ?_
    rw [boolOf_ok ha hi]
    exact .b _
   ·exact (stuck_no hh).elim
  ·split at hh
   ·rename_i t' hi
    obtain ⟨rfl,hk⟩ := hh
    refine (ih hk hS hτ hv hs).cons fun E' τ' Sl' _ _ _ a ha => ?_
    rw [strOf_ok ha hi]
    exact .s _
   ·exact (stuck_no hh).elim
  ·rename_i cs0
   split at hh
   ·rename_i cs
    cases hb : Nat.beq cs.length cs0.length with
    | false => rw [hb] at hh; exact (stuck_no hh).elim
    | true =>
     rw [hb] at hh
     rw [Nat.beq_eq] at hb
     refine (ih hh hS hτ hv hs).sub fun E' τ' Sl' _ _ hg a ha => ?_
     cases ha with
     | agg hl hr =>
      have := good_zip hb hg ⟨hl,hr⟩
      exact .agg this.1 this.2
   ·rename_i as
    cases hb : Nat.beq as.length cs0.length with
    | false => rw [hb] at hh; exact (stuck_no hh).elim
    | true =>
     rw [hb] at hh
     rw [Nat.beq_eq] at hb
     refine (ih hh hS hτ hv hs).sub fun E' τ' Sl' _ _ hg a ha => ?_
     cases ha
     have := good_zip (by simpa using hb) hg (Ers.mapA as)
     exact .agg this.1 this.2
   ·exact (stuck_no hh).elim
  ·rename_i cs0
   split at hh
   ·rename_i cs
    cases hb : Nat.beq cs.length cs0.length with
    | false => rw [hb] at hh; exact (stuck_no hh).elim
    | true =>
     rw [hb] at hh
     rw [Nat.beq_eq] at hb
     refine (ih hh hS hτ hv hs).sub fun E' τ' Sl' _ _ hg a ha => ?_
     cases ha with
     | tup hl hr =>
      have := good_zip hb hg ⟨hl,hr⟩
      exact .tup this.1 this.2
   ·rename_i as
    cases hb : Nat.beq as.length cs0.length with
    | false => rw [hb] at hh; exact (stuck_no hh).elim
    | true =>
     rw [hb] at hh
     rw [Nat.beq_eq] at hb
     refine (ih hh hS hτ hv hs).sub fun E' τ' Sl' _ _ hg a ha => ?_
     cases ha
     have := good_zip (by simpa using hb) hg (Ers.mapA as)
     exact .tup this.1 this.2
   ·exact (stuck_no hh).elim
  ·rename_i t v
   split at hh
   ·rename_i t' x'
    split at hh
    ·rename_i ht
     subst ht
     refine LeOut.sub (W1 := [(x',v)]) (ih hh hS hτ hv hs) fun E' τ' Sl' _ _ hg a ha => ?_
     cases ha with
     | iface hi => exact .iface (hg (x',v) (by simp) _ hi)
    ·exact (stuck_no hh).elim
   ·rename_i t' a'
    split at hh
    ·rename_i ht
     subst ht
     refine LeOut.sub (W1 := [(.a a',v)]) (ih hh hS hτ hv hs) fun E' τ' Sl' _ _ hg a ha => ?_
     cases ha
     exact .iface (hg (.a a',v) (by simp) _ (.a _))
    ·exact (stuck_no hh).elim
   ·exact (stuck_no hh).elim
  ·rename_i cs0
   split at hh
   ·rename_i cs
    cases hb : Nat.beq cs.length cs0.length with
    | false => rw [hb] at hh; exact (stuck_no hh).elim
    | true =>
     rw [hb] at hh
     rw [Nat.beq_eq] at hb
     refine (ih hh hS hτ hv hs).sub fun E' τ' Sl' _ _ hg a ha => ?_
     cases ha with
     | fpI e hl hr =>
      have := good_zip hb hg ⟨hl,hr⟩
      exact .fpI e this.1 this.2
     | fpP hf e hl hr =>
      have := good_zip hb hg ⟨hl,hr⟩
      exact .fpP (.inl hf) e this.1 this.2
   ·rename_i as
    cases hb : Nat.beq as.length cs0.length with
    | false => rw [hb] at hh; exact (stuck_no hh).elim
    | true =>
     rw [hb] at hh
     rw [Nat.beq_eq] at hb
     refine (ih hh hS hτ hv hs).sub fun E' τ' Sl' _ _ hg a ha => ?_
     cases ha
     have := good_zip (by simpa using hb) hg (Ers.mapA as)
     exact .fpI (List.append_nil _).symm this.1 this.2
   ·exact (stuck_no hh).elim
  ·rename_i m l
   split at hh
   ·rename_i m' l'
    split at hh
    ·rename_i em
     subst em
     obtain ⟨he,hk⟩ := hh
     have he : l' = l := he
     subst he
     refine (ih hk hS hτ hv hs).cons fun E' τ' Sl' _ _ _ a ha => ?_
     cases ha with
     | tlN => exact .tlN
     | tlL h1 h2 h3 h4 => exact noId_er hC (E := E') (E' := E'.via τ' Sl') (fun _ _ h => .inl h) (.tlL h1 h2 h3 h4) rfl
     | tlS h1 h2 h3 h4 h5 h6 => exact noId_er hC (E := E') (E' := E'.via τ' Sl') (fun _ _ h => .inl h) (.tlS h1 h2 h3 h4 h5 h6) rfl
    ·exact (stuck_no hh).elim
   ·obtain ⟨rfl,hk⟩ := hh
    refine (ih hk hS hτ hv hs).cons fun E' τ' Sl' _ _ _ a ha => ?_
    cases ha
    exact .tlN
   ·rename_i sz id off len cap ex
    split at hh
    ·rename_i cs ho
     split at hh
     ·rename_i hc
      obtain ⟨hc1,hc3,hc4,hc6⟩ := hc
      split at hh
      ·rename_i xs hxs
       obtain ⟨he,hk⟩ := hh
       have he : xs = l := he
       subst he
       have hid := hget_some ho
       obtain ⟨b,as,g1,gw,g2,g3⟩ := hS.obj id _ hid
       have hl := g3.1
       have hch := decAll_ok hC (chunkS_ok (n := len) (z := sz) (g3.drop off) (by simp; omega)) hxs
       rw [hc1] at hch
       have hxl : xs.length = len := by
        have := hch.1
        rw [chunk_len] at this
        simpa using this
       have hnot : ∀ (j' : Nat),τ[j']? ≠ some (some id) := by
        intro j' e'
        have : some id ∈ τ := List.mem_of_getElem? e'
        simp [this] at hc6
       have hrows : RowsAt E m xs as off := by
        intro i y jj xx aa q1 q2 q3
        have hi : i < len := by have := lt_of_some q1; omega
        have hrow := hch.2 i (C.enc m y) ((as.drop off |>.drop (i * sz)).take sz) (by simp [q1]) (by rw [← hc1]; exact chunk_get hi)
        have hjj : jj < sz := by have := lt_of_some q2; rw [hC.len] at this; omega
        refine hrow.1.2 jj xx aa q2 ?_
        rw [List.getElem?_take,if_pos hjj,List.getElem?_drop,List.getElem?_drop,hc1,← Nat.add_assoc]
        exact q3
       have hL := ih (Sl := fun b' cs' => Sl b' cs' ∨ (b' = b ∧ cs' = as)) hk (hS.drop id) hτ (fun j i hj => by simpa using hv j i hj) (by
        intro b' cs' hb'
        have old : ∀ (i : Nat) (o : Obj C.T),(h.set id none)[i]? = some (some o) → i ≠ id ∧ h[i]? = some (some o) := by
         intro i o hi
         rw [List.getElem?_set] at hi
         split at hi
         ·split at hi <;> cases hi
         ·rename_i e; exact ⟨fun e2 => e e2.symm,hi⟩
        rcases hb' with hb' | ⟨rfl,rfl⟩
        ·exact ⟨(hs b' cs' hb').1,fun i o hi => (hs b' cs' hb').2 i o (old i o hi).2⟩
        ·exact ⟨g2,fun i o hi e => (old i o hi).1 (hS.inj i id o _ b' (old i o hi).2 hid e g1)⟩)
       obtain ⟨E',τ',h',Sl',k1,k2,k3,k4,k5,k6,k7,k8,k9,ks1,ks2⟩ := hL
       simp only [List.length_set] at k1 k2
       refine ⟨E',τ',h',Sl',k1,k2,k3,k4,k5,k6,fun q hq => ?_,k8,fun j' id' hj' => ?_,ks1,fun b' cs' hb' => ks2 b' cs' (.inl hb')⟩
       ·rcases List.mem_cons.1 hq with rfl | hq
        ·intro a ha
         cases ha with
         | sl hβ =>
          have e1 := k1.le.β _ _ g1
          rw [e1] at hβ
          cases hβ
          exact .tlS hc1 hxl.symm (.inr (ks2 b as (.inr ⟨rfl,rfl⟩))) (by rw [← hc1,hxl]; omega) (by omega) fun i y jj xx aa q1 q2 q3 =>
           noId_er hC (E := E) (E' := E'.via τ' Sl') (fun b cs hf => .inl (k1.le.Fr b cs hf)) (hrows i y jj xx aa q1 q2 q3) (List.all_eq_true.1 (hC.ids m y) xx (List.mem_of_getElem? q2))
        ·exact k7 q hq
       ·rw [k9 j' id' hj',List.getElem?_set,if_neg (fun e => hnot j' (by rw [e]; exact hj'))]
      ·exact (stuck_no hh).elim
     ·exact (stuck_no hh).elim
    ·exact (stuck_no hh).elim
   ·exact (stuck_no hh).elim
  ·rename_i f as bs
   split at hh
   ·rename_i f' as' bs'
    split at hh
    ·rename_i hf
     subst hf
     cases hb : (Nat.beq as'.length as.length && Nat.beq bs'.length bs.length) with
     | false => rw [hb] at hh; exact (stuck_no hh).elim
     | true =>
      rw [hb] at hh
      simp only [cond_true] at hh
      rw [Bool.and_eq_true,Nat.beq_eq,Nat.beq_eq] at hb
      rw [← List.append_assoc] at hh
      refine (ih hh hS hτ hv hs).sub fun E' τ' Sl' _ _ hg a ha => ?_
      cases ha with
      | fn q1 q2 q3 q4 =>
       have g1 := good_zip hb.1 (fun p hp => hg p (List.mem_append_left _ hp)) ⟨q1,q2⟩
       have g2 := good_zip hb.2 (fun p hp => hg p (List.mem_append_right _ hp)) ⟨q3,q4⟩
       exact .fn g1.1 g1.2 g2.1 g2.2
    ·exact (stuck_no hh).elim
   ·exact (stuck_no hh).elim
  ·rename_i j off
   split at hh
   ·rename_i id off'
    cases hb : Nat.beq off' off with
    | false => rw [hb] at hh; exact (stuck_no hh).elim
    | true =>
     rw [hb] at hh
     rw [Nat.beq_eq] at hb
     subst hb
     refine bind hh fun E' τ' Sl' _ hj a ha => ?_
     cases ha with
     | ptr hβ => exact .ptr (by rw [via_β hj]; exact hβ)
   ·exact (stuck_no hh).elim
  ·rename_i sz j off len cap ex
   split at hh
   ·rename_i sz' id off' len' cap' ex'
    cases hb : (Nat.beq sz' sz && Nat.beq off' off && Nat.beq len' len && Nat.beq cap' cap && (ex' == ex)) with
    | false => rw [hb] at hh; exact (stuck_no hh).elim
    | true =>
     rw [hb] at hh
     simp only [Bool.and_eq_true,Nat.beq_eq,beq_iff_eq] at hb
     obtain ⟨⟨⟨⟨rfl,rfl⟩,rfl⟩,rfl⟩,rfl⟩ := hb
     refine bind hh fun E' τ' Sl' _ hj a ha => ?_
     cases ha with
     | sl hβ => exact .sl (by rw [via_β hj]; exact hβ)
   ·exact (stuck_no hh).elim
  ·rename_i j i off
   split at hh
   ·rename_i id i' off'
    cases hb : Nat.beq off' off with
    | false => rw [hb] at hh; exact (stuck_no hh).elim
    | true =>
     rw [hb] at hh
     rw [Nat.beq_eq] at hb
     subst hb
     obtain ⟨rfl,hk⟩ := hh
     refine bind hk fun E' τ' Sl' _ hj a ha => ?_
     cases ha with
     | ep hγ => exact .ep (by rw [via_γ hj]; exact hγ)
   ·exact (stuck_no hh).elim
  ·rename_i j
   split at hh
   ·rename_i id
    refine bind hh fun E' τ' Sl' _ hj a ha => ?_
    cases ha with
    | R hγ hs => exact .R (by rw [via_γ hj]; exact hγ) hs
   ·split at hh
    ·rename_i m l0 full0 root0 hfj
     have hn0 : h.set h.length none = h := by
      apply List.ext_getElem?
      intro i
      rw [List.getElem?_set]
      split
      ·rename_i hj; subst hj; simp
      ·rfl
     have hput := hS.put (H' := H) h.length (.rows m [] true h.length) none .nils h.length (Nat.le_refl _) (fun b _ hne => (hne rfl).elim) (fun b hb => by cases hb) (fun hle => .inl ⟨rfl,by simp [Env.put],.nils,by simp [Env.put],.inl rfl⟩)
     rw [hn0] at hput
     obtain ⟨τ1,W1,h1,h2,h3,h4,h5⟩ := bindX_ok hh hτ
     have hv1 : ∀ (j id : Nat),τ[j]? = some (some id) → id < (h ++ [some (Obj.rows m [] true h.length)]).length := fun j id hj => by have := hv j id hj; simp; omega
     have hL := (ih h1 hput.2 h4 (pre hv1 h5) (hs.put (fun i hi => (hput.1.old i hi).1) fun i o hi => by
      rcases Nat.lt_or_ge i h.length with k | k
      ·rw [List.getElem?_append_left k] at hi
       exact .inl ⟨k,o,hi⟩
      ·rw [List.getElem?_append_right k] at hi
       have : i = h.length := by have := lt_of_some hi; simp at this; omega
       subst this
       exact .inr (.inl (by simp [Env.put])))).bind (τ := τ) (p := (.a .nils,.R j)) h2 h3 h5 (fun E' τ' Sl' hle hj a ha => by
      cases ha
      exact .R (by rw [via_γ hj]; exact hle.γ _ _ (by simp [Env.put])) rfl)
     obtain ⟨E',τ',h',Sl',k1,k2,k3,k4,k5,k6,k7,k8,k9,ks⟩ := hL
     simp only [List.length_append,List.length_cons,List.length_nil] at k1 k2
     refine ⟨E',τ',h',Sl',hput.1.trans (by omega) (Nat.le_refl _) k1,by omega,k3,k4,k5,k6,k7,k8,fun j' id' hj' => ?_,ks⟩
     rw [k9 j' id' hj',List.getElem?_append_left (hv j' id' hj')]
    ·exact (stuck_no hh).elim
   ·rename_i sz id off len cap ex
    split at hh
    ·rename_i m l0 full0 root0 cs hfj ho
     split at hh
     ·rename_i hc
      obtain ⟨hc1,hc2,hc3,hc4,hc5,hc6⟩ := hc
      split at hh
      ·rename_i xs hxs
       have hid := hget_some ho
       obtain ⟨b,as,g1,gw,g2,g3⟩ := hS.obj id _ hid
       have hl := g3.1
       have hblt := lt_of_some g2
       have hmul := Nat.mul_le_mul_right sz hc3
       have hch := decAll_ok hC (chunkS_ok (n := len) (z := sz) (g3.drop off) (by simp; omega)) hxs
       rw [hc1] at hch
       have hxl : xs.length = len := by
        have := hch.1
        rw [chunk_len] at this
        simpa using this
       have hnot : ∀ (j' : Nat),τ[j']? ≠ some (some id) := by
        intro j' e'
        have : some id ∈ τ := List.mem_of_getElem? e'
        simp [this] at hc6
       have hrows : RowsAt E m xs as off := by
        intro i y jj xx aa q1 q2 q3
        have hi : i < len := by have := lt_of_some q1; omega
        have hrow := hch.2 i (C.enc m y) ((as.drop off |>.drop (i * sz)).take sz) (by simp [q1]) (by rw [← hc1]; exact chunk_get hi)
        have hjj : jj < sz := by have := lt_of_some q2; rw [hC.len] at this; omega
        refine hrow.1.2 jj xx aa q2 ?_
        rw [List.getElem?_take,if_pos hjj,List.getElem?_drop,List.getElem?_drop,hc1,← Nat.add_assoc]
        exact q3
       have hput := hS.put (H' := H) id (.rows m xs (ex || Nat.beq cap len) id) (some b) (.sl sz b off len cap ex) id (Nat.le_refl _) (fun b _ hne => (hne rfl).elim) (fun b' hb => by
        simp only [Option.some.injEq] at hb
        subst hb
        exact ⟨hblt,hS.low id b (Nat.zero_le _) g1,fun cs hfr => (hS.fr _ cs hfr).2 id _ hid g1,fun i o hi hio hbi => hi (hS.inj i id o _ _ hio hid hbi g1),.inr gw⟩)
        (fun hle => .inr ⟨b,off,cap,ex,as,by simp only [Env.put,if_true,hc1,hxl],by simp [Env.put],by simp [Env.put],g2,by omega,by rw [← hc1]; omega,hc5.imp_right fun h => by rw [← hc1]; omega,fun hf => by
         rw [Bool.or_eq_true,Nat.beq_eq] at hf
         rw [hxl]
         exact hf,hrows.mono hle.le⟩)
       obtain ⟨τ1,W1,h1,h2,h3,h4,h5⟩ := bindX_ok hh hτ
       have hv1 : ∀ (j i : Nat),τ[j]? = some (some i) → i < (h.set id none ++ [some (Obj.rows m xs (ex || Nat.beq cap len) id)]).length := fun j i hj => by have := hv j i hj; simp; omega
       have hL := (ih h1 hput.2 h4 (pre hv1 h5) (hs.put (fun i hi => (hput.1.old i hi).1) fun i o hi => by
        rcases Nat.lt_or_ge i h.length with k | k
        ·rw [List.getElem?_append_left (by simpa using k),List.getElem?_set] at hi
         split at hi
         ·split at hi <;> cases hi
         ·exact .inl ⟨k,o,hi⟩
        ·rw [List.getElem?_append_right (by simpa using k)] at hi
         have : i = h.length := by have := lt_of_some hi; simp at this; omega
         subst this
         exact .inr (.inr ⟨id,_,hid,by simp [Env.put,g1]⟩))).bind (τ := τ) (p := (.sl sz id off len cap ex,.R j)) h2 h3 h5 (fun E' τ' Sl' hle hj a ha => by
        cases ha with
        | sl hβ =>
         have e1 := hle.β _ _ (hput.1.le.β _ _ g1)
         rw [e1] at hβ
         cases hβ
         exact .R (by rw [via_γ hj]; exact hle.γ _ _ (by simp [Env.put])) rfl)
       obtain ⟨E',τ',h',Sl',k1,k2,k3,k4,k5,k6,k7,k8,k9,ks⟩ := hL
       simp only [List.length_append,List.length_cons,List.length_nil,List.length_set] at k1 k2
       refine ⟨E',τ',h',Sl',hput.1.trans (by omega) (Nat.le_refl _) k1,by omega,k3,k4,k5,k6,k7,k8,fun j' id' hj' => ?_,ks⟩
       rw [k9 j' id' hj',List.getElem?_append_left (by rw [List.length_set]; exact hv j' id' hj'),List.getElem?_set,if_neg (fun e => hnot j' (by rw [e]; exact hj'))]
      ·exact (stuck_no hh).elim
     ·exact (stuck_no hh).elim
    ·exact (stuck_no hh).elim
   ·exact (stuck_no hh).elim
  ·rename_i j
   split at hh
   ·rename_i id
    refine bind hh fun E' τ' Sl' _ hj a ha => ?_
    cases ha with
    | mapr hβ => exact .mapr (by rw [via_β hj]; exact hβ)
   ·exact (stuck_no hh).elim
theorem via_sim (hC : CodecOk C) {E' : Env} {lo : Nat} {h' : SH C} {H : Heap} {fh : List (Obj C.T)} {τ' : Ren} {Sl' : Nat → List AVal → Prop} (hsl : SlOk E' h' H Sl') (hS : SimH E' lo 0 h' H) (hτ : RenOk τ') (hl : τ'.length = fh.length) (hall : ∀ (j : Nat),j < τ'.length → ∃ id,τ'[j]? = some (some id)) (hg : ∀ (j id : Nat),τ'[j]? = some (some id) → ObjGood E' h' fh τ' Sl' j id) :
 SimH (E'.via τ' Sl') lo 0 (fh.map some) H := by
 have live : ∀ (j id : Nat),τ'[j]? = some (some id) → ∃ o,h'[id]? = some (some o) := by
  intro j id hj
  rcases hg j id hj with ⟨es,es0,h1,_⟩ | ⟨cs,cs0,h1,_⟩ | ⟨n,l,full,full0,root,h1,_⟩
  ·exact ⟨_,h1⟩
  ·exact ⟨_,h1⟩
  ·exact ⟨_,h1⟩
 have hβ : ∀ (j b : Nat),(E'.via τ' Sl').β j = some b → ∃ id,τ'[j]? = some (some id) ∧ E'.β id = some b := by
  intro j b hb
  simp only [Env.via] at hb
  cases hj : τ'[j]? with
  | none => rw [hj] at hb; cases hb
  | some o =>
   cases o with
   | none => rw [hj] at hb; cases hb
   | some id => rw [hj] at hb; exact ⟨id,rfl,hb⟩
 have uniq : ∀ (j j' b : Nat),(E'.via τ' Sl').β j = some b → (E'.via τ' Sl').β j' = some b → j = j' := by
  intro j j' b h1 h2
  obtain ⟨id,g1,g2⟩ := hβ j b h1
  obtain ⟨id',g3,g4⟩ := hβ j' b h2
  obtain ⟨o,ho⟩ := live j id g1
  obtain ⟨o',ho'⟩ := live j' id' g3
  have := hS.inj id id' o o' b ho ho' g2 g4
  subst this
  exact hτ j j' id g1 g3
 have hω : ∀ (j b : Nat),(E'.via τ' Sl').β j = some b → (E'.via τ' Sl').ω b = some j := by
  intro j b hb
  have hex : ∃ j,((τ'[j]?).join).bind E'.β = some b := ⟨j,hb⟩
  have e : (E'.via τ' Sl').ω b = some (Classical.choose hex) := by
   simp only [Env.via]
   rw [dif_pos hex]
  rw [e]
  congr 1
  exact uniq _ _ b (Classical.choose_spec hex) hb
 have look : ∀ (j : Nat) (o : Obj C.T),(fh.map some)[j]? = some (some o) → fh[j]? = some o ∧ ∃ id,τ'[j]? = some (some id) := by
  intro j o hj
  rw [List.getElem?_map,Option.map_eq_some_iff] at hj
  obtain ⟨o',h1,h2⟩ := hj
  cases h2
  exact ⟨h1,hall j (by rw [hl]; exact lt_of_some h1)⟩
 refine ⟨?_, ?_, ?_, ?_, ?_, ?_, ?_, ?_,Nat.zero_le _,hS.ll⟩
 ·intro j o hj
  obtain ⟨h1,id,h2⟩ := look j o hj
  rcases hg j id h2 with ⟨es,es0,g1,g2,g34⟩ | ⟨cs,cs0,g1,g2,g3,g4⟩ | ⟨n,l,full,full0,root,g1,g2,g3⟩
  ·rw [h1] at g2
   cases g2
   obtain ⟨b,as,k1,k2,k3,k4⟩ := hS.obj id _ g1
   have hb : (E'.via τ' Sl').β j = some b := by rw [via_β h2]; exact k1
   rcases g34 with ⟨g3,g4⟩ | ⟨g3,g4⟩
   ·exact ⟨b,as,hb,hω j b hb,k3,mp_zip g3 g4 k4⟩
   ·exact ⟨b,as,hb,hω j b hb,k3,mp_pos g3 g4 k4⟩
  ·rw [h1] at g2
   cases g2
   obtain ⟨b,as,k1,k2,k3,k4⟩ := hS.obj id _ g1
   have hb : (E'.via τ' Sl').β j = some b := by rw [via_β h2]; exact k1
   exact ⟨b,as,hb,hω j b hb,k3,good_zip g3 g4 k4⟩
  ·rw [h1] at g2
   cases g2
   rcases hS.obj id _ g1 with ⟨rfl,k1,a,k2,k3⟩ | ⟨b,off,cap,ex,as,k1,k2,k3,k4,k5,k6,k7,k8,k9⟩
   ·exact .inl ⟨rfl,by rw [via_β h2]; exact k1,a,by rw [via_γ h2]; exact k2,k3⟩
   ·have hb : (E'.via τ' Sl').β j = some b := by rw [via_β h2]; exact k2
    refine .inr ⟨b,off,cap,ex,as,by rw [via_γ h2]; exact k1,hb,hω j b hb,k4,k5,k6,k7,fun hf => k8 (g3 hf), ?_⟩
    intro i y jj x a q1 q2 q3
    exact noId_er hC (E := E') (E' := E'.via τ' Sl') (fun _ _ h => .inl h) (k9 i y jj x a q1 q2 q3) (List.all_eq_true.1 (hC.ids n y) x (List.mem_of_getElem? q2))
 ·intro j j' o o' b _ _ h1 h2
  exact uniq j j' b h1 h2
 ·intro b cs hf
  rcases hf with hf | hf
  ·refine ⟨(hS.fr b cs hf).1,fun j o _ hb => ?_⟩
   obtain ⟨id,g1,g2⟩ := hβ j b hb
   obtain ⟨o',ho'⟩ := live j id g1
   exact (hS.fr b cs hf).2 id o' ho' g2
  ·refine ⟨(hsl b cs hf).1,fun j o _ hb => ?_⟩
   obtain ⟨id,g1,g2⟩ := hβ j b hb
   obtain ⟨o',ho'⟩ := live j id g1
   exact (hsl b cs hf).2 id o' ho' g2
 ·intro j hj
  have : τ'[j]? = none := by rw [List.getElem?_eq_none_iff,hl]; simpa using hj
  simp [Env.via,this]
 ·intro j b _ hb
  obtain ⟨id,_,g2⟩ := hβ j b hb
  exact hS.low id b (Nat.zero_le _) g2
 ·intro j b hb
  obtain ⟨id,_,g2⟩ := hβ j b hb
  exact hS.bnd id b g2
 ·intro b r hr
  have : ∃ j,(E'.via τ' Sl').β j = some b := by
   simp only [Env.via] at hr
   split at hr
   ·rename_i hex; exact hex
   ·cases hr
  obtain ⟨j,hb⟩ := this
  obtain ⟨id,g1,g2⟩ := hβ j b hb
  obtain ⟨r',hr'⟩ := hS.βω id b g2
  obtain ⟨o',ho'⟩ := live j id g1
  exact ⟨(hS.own b r' hr').1,fun cs hf => hf.elim ((hS.own b r' hr').2 cs) fun hf => (hsl b cs hf).2 id o' ho' g2⟩
 ·intro j b hb
  exact ⟨j,hω j b hb⟩
end Go.Sy

/- A function's run, from its entry and from each of its cuts to the next one or to its end. Generic: over any program. -/
namespace Go.Sy
open Go.Am
set_option linter.unusedVariables false
set_option linter.unusedSimpArgs false
variable {C : Codec} {E : Env}
structure CutD (C : Codec) where
 St : Type
 I : St → Prop
 m : St → Nat
 regs : St → List (Nat × SV C.T)
 objs : St → List (Obj C.T)
structure FnD (C : Codec) where
 cuts : List (Nat × CutD C)
 res : SV C.T
 objs : List (Obj C.T)
noncomputable def leAll (r : SR C) (h : SH C) (regs : List (Nat × SV C.T)) (objs : List (Obj C.T)) (K : Tree) : Tree :=
 leW objs 1000 (regs.map fun q => (r.get q.1,q.2)) h (List.replicate objs.length none) fun τ _ => bif τ.all Option.isSome then K else .stuck "an object that nothing leads to"
noncomputable def famX (m0 : Option Nat) (c : CutD C) (r : SR C) (h : SH C) : Tree :=
 .ex c.St fun s => leAll r h (c.regs s) (c.objs s) (.need (c.I s) (match m0 with
  | none => .ok
  | some m => .need (c.m s < m) .ok))
noncomputable def candX (m0 : Option Nat) : List (Nat × CutD C) → SR C → SH C → Tree
 | [],_,_ => .stuck "no family"
 | [p],r,h => famX m0 p.2 r h
 | p :: q :: l,r,h => .ex Bool fun b => .fork b (famX m0 p.2 r h) (candX m0 (q :: l) r h)
noncomputable def chkX (nt : Nat) (D : FnD C) (m0 : Option Nat) : CutX C := fun rid => match D.cuts.filter fun p => Nat.beq p.1 rid with
 | [] => none
 | p :: l => some fun r h => bif Nat.beq r.n nt then candX m0 (p :: l) r h else .stuck "frame"
theorem candX_ok {m0 : Option Nat} {r : SR C} {h : SH C} : ∀ {l : List (Nat × CutD C)},(candX m0 l r h).holds → ∃ p,p ∈ l ∧ (famX m0 p.2 r h).holds
 | [],hh => (stuck_no hh).elim
 | [p],hh => ⟨p,List.mem_singleton.2 rfl,hh⟩
 | p :: q :: l,⟨b,hb⟩ => by
  rcases fork_cases hb with ⟨_,h1⟩ | ⟨_,h1⟩
  ·exact ⟨p,List.mem_cons_self,h1⟩
  ·obtain ⟨p',h2,h3⟩ := candX_ok (l := q :: l) h1
   exact ⟨p',List.mem_cons_of_mem _ h2,h3⟩
noncomputable def finX (P : Program) (rs : List ResultVar) (D : FnD C) : FinX C := fun _ r h => resultsX P r h rs fun vs =>
 leW D.objs 1000 [(tupledS vs,D.res)] h (List.replicate D.objs.length none) fun τ _ => bif τ.all Option.isSome then .ok else .stuck "an object that nothing leads to"
noncomputable def entryX (F : Cf C) (ctr : FuncId → Option (Ctr C)) (N : Nat) (fn : Func) (body : Code) (D : FnD C) (args : List (SV C.T)) : Tree :=
 symx F ctr N (chkX fn.ntmps D none) 0 [.c body] (SR.frame args fn.ntmps) [] (finX F.S.P fn.results.toList D)
noncomputable def cutVC (F : Cf C) (ctr : FuncId → Option (Ctr C)) (N : Nat) (fn : Func) (body : Code) (D : FnD C) (rid : Nat) (c : CutD C) (s : c.St) : Tree :=
 match (allK body []).find? fun p => Nat.beq p.1 rid with
 | some (_,.c (.region _ ops draw) :: k) => regionX F (callX F ctr (symx F ctr N)) 0 ops draw (SR.only fn.ntmps (c.regs s)) ((c.objs s).map some) fun r h => symx F ctr N (chkX fn.ntmps D (some (c.m s))) 0 k r h (finX F.S.P fn.results.toList D)
 | _ => .stuck "no such cut"
def nodupB : List Nat → Bool
 | [] => true
 | a :: l => !l.any (Nat.beq a) && nodupB l
theorem nodupB_uniq {α : Type} : ∀ {l : List (Nat × α)},nodupB (l.map (·.1)) = true → ∀ {i : Nat} {x y : α},(i,x) ∈ l → (i,y) ∈ l → x = y
 | [],_,i,x,y,h,_ => by simp at h
 | (j,z) :: l,hn,i,x,y,hx,hy => by
  simp only [List.map_cons,nodupB,Bool.and_eq_true,Bool.not_eq_true'] at hn
  have no : ∀ w,(j,w) ∉ l := by
   intro w hw
   have : (l.map (·.1)).any (Nat.beq j) = true := by
    rw [List.any_eq_true]
    exact ⟨j,List.mem_map.2 ⟨(j,w),hw,rfl⟩,by rw [Nat.beq_eq]⟩
   rw [this] at hn
   cases hn.1
  rcases List.mem_cons.1 hx with e1 | hx <;> rcases List.mem_cons.1 hy with e2 | hy
  ·cases e1; cases e2; rfl
  ·cases e1; exact (no _ hy).elim
  ·cases e2; exact (no _ hx).elim
  ·exact nodupB_uniq hn.2 hx hy
theorem only_sim {n : Nat} {ρ : List AVal} (hl : ρ.length = n) (hs : n ≤ 512) : ∀ {regs : List (Nat × SV C.T)},(∀ q,q ∈ regs → Er E q.2 (ρ.getD q.1 undefA)) → SimR E (SR.only n regs) ρ
 | [],_ => by
  refine ⟨full_full _ _,hs,hl,fun j => ?_⟩
  simp only [SR.only,SR.get,get_full,Option.getD_some]
  cases hb : Nat.blt j n with
  | true => exact .any
  | false =>
   have hj : ¬ j < n := by intro x; rw [← Nat.blt_eq,hb] at x; cases x
   rw [List.getD_eq_getElem?_getD,List.getElem?_eq_none (by omega)]
   exact .a _
 | (i,v) :: regs,h => (only_sim hl hs fun q hq => h q (List.mem_cons_of_mem _ hq)).self (h (i,v) (by simp))
theorem all_some {τ : Ren} (h : τ.all Option.isSome = true) : ∀ (j : Nat),j < τ.length → ∃ id,τ[j]? = some (some id) := by
 intro j hj
 have := List.all_eq_true.1 h τ[j] (List.getElem_mem hj)
 obtain ⟨id,hid⟩ := Option.isSome_iff_exists.1 this
 exact ⟨id,by rw [List.getElem?_eq_getElem hj,hid]⟩
theorem none_ren {n : Nat} (j id : Nat) : ¬ (List.replicate n (none : Option Nat))[j]? = some (some id) := by
 intro h
 rw [List.getElem?_replicate] at h
 split at h <;> cases h
theorem leAll_ok (hC : CodecOk C) {lo : Nat} {H : Heap} {r : SR C} {ρ : List AVal} {h : SH C} {regs : List (Nat × SV C.T)} {objs : List (Obj C.T)} {K : Tree} (hR : SimR E r ρ) (hS : SimH E lo 0 h H) (hh : (leAll r h regs objs K).holds) :
 K.holds ∧ ∃ E',SimR E' (SR.only r.n regs) ρ ∧ SimH E' lo 0 (objs.map some) H := by
 unfold leAll at hh
 obtain ⟨E',τ',h',Sl',k1,k2,k3,k4,k5,k6,k7,k8,k9,ks,_⟩ := leW_ok (Sl := fun _ _ => False) hC hh hS (fun j j' id h1 _ => (none_ren j id h1).elim) (fun j id h1 => (none_ren j id h1).elim) (fun _ _ h => h.elim)
 replace k6 : (bif τ'.all Option.isSome then K else Tree.stuck "an object that nothing leads to").holds := k6
 cases ha : τ'.all Option.isSome with
 | false => rw [ha] at k6; exact (stuck_no k6).elim
 | true =>
  rw [ha] at k6
  refine ⟨k6,E'.via τ' Sl', ?_,via_sim hC ks k3 k4 (by rw [k5.1]; simp) (all_some ha) fun j id hj => (k8 j id hj).resolve_left (none_ren j id)⟩
  refine only_sim hR.len hR.small fun q hq => ?_
  exact k7 (r.get q.1,q.2) (List.mem_map.2 ⟨q,hq,rfl⟩) _ ((hR.val q.1).mono k1.le)
theorem leRes_ok (hC : CodecOk C) {lo : Nat} {H : Heap} {h : SH C} {x : SV C.T} {a : AVal} {res : SV C.T} {objs : List (Obj C.T)} (hx : Er E x a) (hS : SimH E lo 0 h H) (hh : (leW objs 1000 [(x,res)] h (List.replicate objs.length none) fun τ _ => bif τ.all Option.isSome then .ok else .stuck "an object that nothing leads to").holds) :
 ∃ E',Er E' res a ∧ SimH E' lo 0 (objs.map some) H := by
 obtain ⟨E',τ',h',Sl',k1,k2,k3,k4,k5,k6,k7,k8,k9,ks,_⟩ := leW_ok (Sl := fun _ _ => False) hC hh hS (fun j j' id h1 _ => (none_ren j id h1).elim) (fun j id h1 => (none_ren j id h1).elim) (fun _ _ h => h.elim)
 replace k6 : (bif τ'.all Option.isSome then Tree.ok else Tree.stuck "an object that nothing leads to").holds := k6
 cases ha : τ'.all Option.isSome with
 | false => rw [ha] at k6; exact (stuck_no k6).elim
 | true =>
  exact ⟨E'.via τ' Sl',k7 (x,res) (by simp) _ (hx.mono k1.le),via_sim hC ks k3 k4 (by rw [k5.1]; simp) (all_some ha) fun j id hj => (k8 j id hj).resolve_left (none_ren j id)⟩
theorem find_ok.{u} {α : Type u} {l : List (Nat × α)} {rid : Nat} {p : Nat × α} (h : (l.find? fun p => Nat.beq p.1 rid) = some p) : p ∈ l ∧ p.1 = rid := by
 refine ⟨List.mem_of_find?_eq_some h, ?_⟩
 have := List.find?_some h
 simpa using this
theorem fn_runsP {F : Cf C} (hC : CodecOk C) (hX : ExtNo F.S F.noExt) (hL : HookLow F.S) {ctr : FuncId → Option (Ctr C)} (hctr : CtrOk F.S ctr) {f : FuncId} {fn : Func} {body : Code} (hf : F.S.P.funcs[f]? = some fn) (hb : fn.body = some body) (hk : F.S.hook f = none)
 (D : FnD C) (N : Nat) {args : List (SV C.T)} (hn : args.length ≤ fn.ntmps) (hs : fn.ntmps ≤ 512) (hnd : nodupB ((allK body []).map (·.1)) = true)
 (hentry : (entryX F ctr N fn body D args).holds) (hcuts : ∀ p,p ∈ D.cuts → ∀ s,p.2.I s → (cutVC F ctr N fn body D p.1 p.2 s).holds)
 {lo : Nat} {H : Heap} {av : List AVal} (hS : SimH E ((F.S.pol f).lo lo H) 0 ([] : SH C) H) (hA : Ers E args av) :
 ∃ n v H' E',callA F.S (execA F.S n) lo f av H = finish (F.S.pol f) H v H' ∧ SimH E' ((F.S.pol f).lo lo H) 0 (D.objs.map some) H' ∧ Er E' D.res v := by
 -- where a run ends
 let Q : AExit → List AVal → Heap → Prop := fun _ ρ' H' => ∃ r' h' E',(finX F.S.P fn.results.toList D .ret r' h').holds ∧ SimR E' r' ρ' ∧ SimH E' ((F.S.pol f).lo lo H) 0 h' H'
 have hcut' : ∀ (m0 : Option Nat) {id : Nat} {chk : SR C → SH C → Tree},chkX fn.ntmps D m0 id = some chk → ∀ {r : SR C} {ρ : List AVal} {h : SH C} {lo : Nat} {H : Heap} {E1 : Env},(chk r h).holds → SimR E1 r ρ → SimH E1 lo 0 h H →
  r.n = fn.ntmps ∧ ∃ p,p ∈ D.cuts ∧ p.1 = id ∧ ∃ s,p.2.I s ∧ (∀ m,m0 = some m → p.2.m s < m) ∧ ∃ E',SimR E' (SR.only r.n (p.2.regs s)) ρ ∧ SimH E' lo 0 ((p.2.objs s).map some) H := by
  intro m0 id chk hc
  unfold chkX at hc
  split at hc
  ·cases hc
  ·rename_i p0 l0 hfilter
   simp only [Option.some.injEq] at hc
   subst hc
   intro r ρ h lo H E1 hh hR hS
   simp only at hh
   cases hb : Nat.beq r.n fn.ntmps with
   | false => rw [hb] at hh; exact (stuck_no hh).elim
   | true =>
   rw [hb] at hh
   rw [Nat.beq_eq] at hb
   obtain ⟨p,hp,s,hs⟩ := candX_ok hh
   rw [← hfilter,List.mem_filter] at hp
   obtain ⟨⟨g1,g2⟩,g3⟩ := leAll_ok hC hR hS hs
   refine ⟨hb,p,hp.1,by simpa using hp.2,s,g1,fun m hm => ?_,g3⟩
   subst hm
   exact g2.1
 have cut : ∀ (M : Nat) (p : Nat × CutD C) (s : p.2.St),p ∈ D.cuts → p.2.I s → p.2.m s < M → ∀ (k : List Kt),(p.1,k) ∈ allK body [] → SubK (allK body []) k → ∀ (E1 : Env) (ρ1 : List AVal) (H1 : Heap),SimR E1 (SR.only fn.ntmps (p.2.regs s)) ρ1 → SimH E1 ((F.S.pol f).lo lo H) 0 ((p.2.objs s).map some) H1 →
  ∃ x ρ' H',RunsK F.S ((F.S.pol f).lo lo H) k ρ1 H1 (x,ρ',H') ∧ Q x ρ' H' := by
  intro M
  induction M with
  | zero => intro p s _ _ hm; omega
  | succ M ih =>
   intro p s hpc hI hm k hkm hsub E1 ρ1 H1 hR1 hS1
   have hv := hcuts p hpc s hI
   unfold cutVC at hv
   split at hv
   ·rename_i rid id ops draw k0 hfind
    obtain ⟨hmem,hrid⟩ := find_ok hfind
    simp only at hrid
    subst hrid
    have hkk := nodupB_uniq hnd hkm hmem
    subst hkk
    obtain ⟨ρ2,H2,r2,h2,E2,q1,q2,q3,q4,q5,q6,q7⟩ := regionX_ok (id := id) hC hX hL (callX_ok hC hctr (symx_ok hC hX hL hctr N)) hR1 hS1 hv
    obtain ⟨x,ρ',H',g1,g2⟩ := symx_ok hC hX hL hctr N _ _ _ _ _ _ _ _ _ _ (allK body []) Q q7 q4 q5 hsub.2
     (fun x r' h' E' ρ' H' p1 p2 p3 p4 p5 p6 => ⟨r',h',E',p1,p2,p3⟩)
     (fun id' chk k' r' h' E' ρ' H' p0 p00 p000 p1 p2 p3 p4 p5 p6 => by
      obtain ⟨hr'n,p',w1,w2,s',w4,w5,E'',w7,w8⟩ := hcut' _ p0 p1 p2 p3
      rw [hr'n] at w7
      exact ih p' s' w1 w4 (by have := w5 _ rfl; omega) k' (by rw [w2]; exact p00) p000 E'' ρ' H' w7 w8)
    exact ⟨x,ρ',H',.c q1 g1,g2⟩
   ·exact (stuck_no hv).elim
 have hR0 := frame_sim hA (n := fn.ntmps) (by rw [← hA.1]; exact hn) hs
 have hsub0 : SubK (allK body []) [.c body] := ⟨fun y hy => hy,trivial⟩
 obtain ⟨x,ρ',H',g1,g2⟩ := symx_ok hC hX hL hctr N _ _ _ _ _ _ _ _ _ _ (allK body []) Q hentry hR0 hS hsub0
  (fun x r' h' E' ρ' H' p1 p2 p3 p4 p5 p6 => ⟨r',h',E',p1,p2,p3⟩)
  (fun id' chk k' r' h' E' ρ' H' p0 p00 p000 p1 p2 p3 p4 p5 p6 => by
   obtain ⟨hr'n,p',w1,w2,s',w4,w5,E'',w7,w8⟩ := hcut' _ p0 p1 p2 p3
   rw [hr'n] at w7
   exact cut (p'.2.m s' + 1) p' s' w1 w4 (by omega) k' (by rw [w2]; exact p00) p000 E'' ρ' H' w7 w8)
 obtain ⟨r',h',E',w1,w2,w3⟩ := g2
 obtain ⟨hrun,hne⟩ := g1.out
 obtain ⟨vs,as,e1,e2,e3⟩ := resultsX_ok (S := F.S) hC w2 w3 w1
 obtain ⟨E'',e5,e6⟩ := leRes_ok hC (tupled_er e2) w3 e3
 obtain ⟨m,hm⟩ := hrun
 refine ⟨m,tupled as,H',E'', ?_,e6,e5⟩
 simp only [callA,hk,hf,hb]
 rw [hm]
 cases x with
 | exit i => exact (hne i rfl).elim
 | normal => simp only [e1]
 | ret => simp only [e1]
theorem fn_runs {F : Cf C} (hC : CodecOk C) (hX : ExtNo F.S F.noExt) (hL : HookLow F.S) {ctr : FuncId → Option (Ctr C)} (hctr : CtrOk F.S ctr) {f : FuncId} {fn : Func} {body : Code} (hf : F.S.P.funcs[f]? = some fn) (hb : fn.body = some body) (hk : F.S.hook f = none) (hp : F.S.pol f ≠ .pure)
 (D : FnD C) (N : Nat) {args : List (SV C.T)} (hn : args.length ≤ fn.ntmps) (hs : fn.ntmps ≤ 512) (hnd : nodupB ((allK body []).map (·.1)) = true)
 (hentry : (entryX F ctr N fn body D args).holds) (hcuts : ∀ p,p ∈ D.cuts → ∀ s,p.2.I s → (cutVC F ctr N fn body D p.1 p.2 s).holds)
 {lo : Nat} {H : Heap} {av : List AVal} (hS : SimH E ((F.S.pol f).lo lo H) 0 ([] : SH C) H) (hA : Ers E args av) :
 ∃ n v H' E',callA F.S (execA F.S n) lo f av H = some (v,H') ∧ SimH E' ((F.S.pol f).lo lo H) 0 (D.objs.map some) H' ∧ Er E' D.res v := by
 obtain ⟨n,v,H',E',h1,h2⟩ := fn_runsP hC hX hL hctr hf hb hk D N hn hs hnd hentry hcuts hS hA
 refine ⟨n,v,H',E', ?_,h2⟩
 rw [h1]
 cases hpp : F.S.pol f with
 | keep => rfl
 | fresh => rfl
 | pure => exact (hp hpp).elim
end Go.Sy

/- Contracts of functions that make their own: taken at a call, owed by the function's own run. Generic: over any program. -/
namespace Go.Sy
open Go.Am
set_option linter.unusedVariables false
set_option linter.unusedSimpArgs false
variable {C : Codec} {E : Env}
inductive Pat (C : Codec) where
 | int (k : IntKind)
 | bool
 | str
 | tl (n : Nat)
 | row (n : Nat)
 | frow (n : Nat)
 | fskip (k n : Nat)
 | exact
 | lit (X : Type) (f : X → AVal)
def Pat.ty : Pat C → Type
 | .int _ => Int
 | .bool => Bool
 | .str => List UInt8
 | .tl n => List (C.T n)
 | .row n => C.T n
 | .frow n => C.T n
 | .fskip _ n => C.T n
 | .exact => AVal
 | .lit X _ => X
def Pat.sv : (p : Pat C) → p.ty → SV C.T
 | .int k,n => .i k n
 | .bool,b => .b b
 | .str,s => .s s
 | .tl n,l => .tl n l
 | .row n,x => .agg (C.enc n x)
 | .frow n,x => .fp (C.enc n x)
 | .fskip k n,x => .fp (List.replicate k .any ++ C.enc n x)
 | .exact,v => .a v
 | .lit _ f,y => .a (f y)
def viewL {T : Nat → Type} (v : Option Nat → SV T → Option (SV T)) : List (Option Nat) → List (SV T) → Option (List (SV T))
 | [],[] => some []
 | s :: ss,x :: xs => match v s x with
  | some y => match viewL v ss xs with
   | some ys => some (y :: ys)
   | none => none
  | none => none
 | _,_ => none
def rowsV (v : Option Nat → SV C.T → Option (SV C.T)) (n : Nat) : List (List (SV C.T)) → Option (List (C.T n))
 | [] => some []
 | r :: rs => match viewL v (C.shape n) r with
  | some r' => match C.dec n r' with
   | some y => match rowsV v n rs with
    | some ys => some (y :: ys)
    | none => none
   | none => none
  | none => none
def viewC (h : SH C) : Nat → Option Nat → SV C.T → Option (SV C.T)
 | 0,_,_ => none
 | _ + 1,none,x => bif noId x then some x else none
 | f + 1,some m,x => match x with
  | .tl m' l => some (.tl m' l)
  | .a .nils => some (.tl m [])
  | .R id => match hget h id with
   | some (.rows m' l _ _) => some (.tl m' l)
   | _ => none
  | .sl sz id off len cap _ => match hget h id with
   | some (.cells cs) => if sz = C.sz m ∧ off + len * sz ≤ cs.length ∧ len ≤ cap then (match rowsV (viewC h f) m (chunkS sz len (cs.drop off)) with | some l => some (.tl m l) | none => none) else none
   | _ => none
  | .a (.list sz rows _) => if sz = C.sz m ∧ (rows.all fun r => r.length == sz) then (match rowsV (viewC h f) m (rows.map (List.map .a)) with | some l => some (.tl m l) | none => none) else none
  | _ => none
def takeTl (h : SH C) (n : Nat) (x : SV C.T) (K : List (C.T n) → Tree) : Tree :=
 match viewC h 4 (some n) x with
 | some (.tl m l) => if e : m = n then K (castL e l) else .stuck "take: rows of another kind"
 | _ => .stuck "take: tl"
def takeRow (h : SH C) (n : Nat) (cs : List (SV C.T)) (K : C.T n → Tree) : Tree :=
 match viewL (viewC h 4) (C.shape n) cs with
 | some cs' => opt (C.dec n cs') "take: row" K
 | none => .stuck "take: row"
def takeFrow (h : SH C) (n : Nat) (x : SV C.T) (K : C.T n → Tree) : Tree :=
 match x with
 | .fp cs => if C.sz n ≤ cs.length then takeRow h n (cs.take (C.sz n)) K else .stuck "take: frow"
 | .a (.ipt as) => if C.sz n ≤ as.length then takeRow h n ((as.take (C.sz n)).map .a) K else .stuck "take: frow"
 | .ptr id off => match hget h id with
  | some (.cells cs) => if off + C.sz n ≤ cs.length then takeRow h n ((cs.drop off).take (C.sz n)) K else .stuck "take: frow"
  | _ => .stuck "take: gone"
 | _ => .stuck "take: frow"
def takeSkip (h : SH C) (k n : Nat) (x : SV C.T) (K : C.T n → Tree) : Tree :=
 match x with
 | .ptr id off => match hget h id with
  | some (.cells cs) => if off + k + C.sz n ≤ cs.length then takeRow h n ((cs.drop (off + k)).take (C.sz n)) K else .stuck "take: fskip"
  | _ => .stuck "take: gone"
 | _ => .stuck "take: fskip"
def Pat.take (h : SH C) : (p : Pat C) → SV C.T → (p.ty → Tree) → Tree
 | .int k,x,K => match intOf x with
  | some (k',n) => if k' = k then K n else .stuck "take: kind"
  | none => .stuck "take: int"
 | .bool,x,K => match boolOf x with
  | some b => K b
  | none => .stuck "take: bool"
 | .str,x,K => match strOf x with
  | some s => K s
  | none => .stuck "take: str"
 | .tl n,x,K => takeTl h n x K
 | .row n,x,K => match x with
  | .agg cs => takeRow h n cs K
  | .a (.agg as) => takeRow h n (as.map .a) K
  | _ => .stuck "take: row"
 | .frow n,x,K => takeFrow h n x K
 | .fskip k n,x,K => takeSkip h k n x K
 | .exact,x,K => match litV x with
  | some v => K v
  | none => .stuck "take: exact"
 | .lit X f,x,K => match litV x with
  | some v => .ex X fun y => .need (v = f y) (K y)
  | none => .stuck "take: lit"
def tys : List (Pat C) → Type
 | [] => Unit
 | p :: ps => p.ty × tys ps
def argsS : (ps : List (Pat C)) → tys ps → List (SV C.T)
 | [],_ => []
 | p :: ps,x => p.sv x.1 :: argsS ps x.2
def takeAll (h : SH C) : (ps : List (Pat C)) → List (SV C.T) → (tys ps → Tree) → Tree
 | [],[],K => K ()
 | p :: ps,x :: xs,K => p.take h x fun y => takeAll h ps xs fun ys => K (y,ys)
 | _,_,_ => .stuck "take: how many"
mutual
def shiftS {T : Nat → Type} (d : Nat) : SV T → SV T
 | .agg cs => .agg (shiftL d cs)
 | .tup cs => .tup (shiftL d cs)
 | .iface t v => .iface t (shiftS d v)
 | .ptr id off => .ptr (id + d) off
 | .sl sz id off len cap ex => .sl sz (id + d) off len cap ex
 | .R id => .R (id + d)
 | .a v => .a v
 | .i k n => .i k n
 | .b x => .b x
 | .s x => .s x
 | _ => .any
def shiftL {T : Nat → Type} (d : Nat) : List (SV T) → List (SV T)
 | [] => []
 | x :: xs => shiftS d x :: shiftL d xs
end
mutual
def pureS {T : Nat → Type} : SV T → Bool
 | .agg cs => pureL cs
 | .tup cs => pureL cs
 | .iface _ v => pureS v
 | .ptr _ _ => true
 | .sl _ _ _ _ _ _ => true
 | .R _ => true
 | .a _ => true
 | .i _ _ => true
 | .b _ => true
 | .s _ => true
 | _ => false
def pureL {T : Nat → Type} : List (SV T) → Bool
 | [] => true
 | x :: xs => pureS x && pureL xs
end
def shiftO (d : Nat) : Obj C.T → Obj C.T
 | .cells cs => .cells (shiftL d cs)
 | .rows n l full root => .rows n l full (root + d)
 | .mp es => .mp es
 | .it s pos => .it s pos
def pureO : Obj C.T → Bool
 | .cells cs => pureL cs
 | .rows n _ _ _ => C.flat n
 | .mp _ => false
 | .it _ _ => false
structure CtrD (C : Codec) where
 pats : List (Pat C)
 pre : tys pats → Prop
 res : tys pats → SV C.T
 objs : tys pats → List (Obj C.T)
def mkCtr (D : CtrD C) : Ctr C := fun wlo args h K => takeAll h D.pats args fun x => .need (D.pre x) (K (shiftS h.length (D.res x)) (h ++ (D.objs x).map fun o => some (shiftO h.length o)))
def away (H : Heap) : Env := ⟨fun _ => none,fun _ => none,fun _ => none,fun b cs => H[b]? = some (some (.cells cs))⟩
theorem away_sim {H : Heap} {lo : Nat} (hl : lo ≤ H.length) : SimH (away H) lo 0 ([] : SH C) H where
 obj := fun id o h => by simp at h
 inj := fun id id' o o' b h => by simp at h
 fr := fun b cs hf => ⟨hf,fun id o h => by simp at h⟩
 fresh := fun id _ => ⟨rfl,rfl⟩
 low := fun id b _ h => by cases h
 bnd := fun id b h => by cases h
 own := fun b r h => by cases h
 βω := fun id b h => by cases h
 wl := Nat.zero_le _
 ll := hl
theorem to_away (hC : CodecOk C) {lo wlo : Nat} {h : SH C} {H : Heap} (hS : SimH E lo wlo h H) {x : SV C.T} {a : AVal} (hx : Er E x a) (hn : noId x = true) : Er (away H) x a := noId_er hC (fun b cs hf => (hS.fr b cs hf).1) hx hn
theorem tl_rows (hC : CodecOk C) {E1 : Env} {n b off len cap : Nat} {ex : Bool} {l : List (C.T n)} {as : List AVal} (hf : E1.Fr b as) (hl : len = l.length) (ho : off + len * C.sz n ≤ as.length) (hc : len ≤ cap) (hr : RowsEr E1 (C.sz n) (l.map (C.enc n)) (chunk (C.sz n) len (as.drop off))) : Er E1 (.tl n l) (.sl (C.sz n) b off len cap ex) := by
 subst hl
 refine .tlS rfl rfl hf ho hc ?_
 intro i y j x a h1 h2 h3
 have hi := lt_of_some h1
 have hj : j < C.sz n := by have := lt_of_some h2; rw [hC.len] at this; exact this
 have := hr.2 i (C.enc n y) _ (by simp [h1]) (chunk_get hi)
 refine this.1.2 j x a h2 ?_
 rw [List.getElem?_take,if_pos hj,List.getElem?_drop,List.getElem?_drop,← Nat.add_assoc]
 exact h3
theorem viewL_ok {E1 : Env} {v : Option Nat → SV C.T → Option (SV C.T)} (hv : ∀ s x y a,v s x = some y → Er E x a → Er E1 y a) : ∀ {ss : List (Option Nat)} {xs ys : List (SV C.T)} {as : List AVal},viewL v ss xs = some ys → Ers E xs as → Ers E1 ys as
 | [],[],ys,as,h,hx => by
  simp only [viewL,Option.some.injEq] at h
  subst h
  rw [hx.inv_nil]
  exact Ers.nil
 | [],_ :: _,ys,as,h,hx => by cases h
 | _ :: _,[],ys,as,h,hx => by cases h
 | s :: ss,x :: xs,ys,as,h,hx => by
  obtain ⟨a,as',rfl,h1,h2⟩ := hx.inv_cons
  simp only [viewL] at h
  split at h
  ·rename_i y hy
   split at h
   ·rename_i ys' hys
    simp only [Option.some.injEq] at h
    subst h
    exact (viewL_ok hv hys h2).cons (hv _ _ _ _ hy h1)
   ·cases h
  ·cases h
theorem rowsV_ok (hC : CodecOk C) {E1 : Env} {v : Option Nat → SV C.T → Option (SV C.T)} (hv : ∀ s x y a,v s x = some y → Er E x a → Er E1 y a) {n z : Nat} : ∀ {rows : List (List (SV C.T))} {rA : List (List AVal)} {xs : List (C.T n)},RowsEr E z rows rA → rowsV v n rows = some xs → RowsEr E1 z (xs.map (C.enc n)) rA
 | [],rA,xs,h,hd => by
  simp only [rowsV,Option.some.injEq] at hd
  subst hd
  exact ⟨h.1,fun i r ra h => by simp at h⟩
 | r :: rows,[],xs,h,hd => by simp [RowsEr] at h
 | r :: rows,ra :: rA,xs,h,hd => by
  simp only [rowsV] at hd
  split at hd
  ·rename_i r' hr'
   split at hd
   ·rename_i y hy
    split at hd
    ·rename_i ys hys
     simp only [Option.some.injEq] at hd
     subst hd
     obtain ⟨h1,h2,h3⟩ := h.tail
     have ih := rowsV_ok hC hv h3 hys
     refine ⟨by simp [ih.1],fun i p q h4 h5 => ?_⟩
     cases i with
     | zero =>
      simp only [List.map_cons,List.getElem?_cons_zero,Option.some.injEq] at h4 h5
      subst h4 h5
      exact ⟨hC.dec n r' y hy E1 ra (viewL_ok hv hr' h1),h2⟩
     | succ i =>
      simp only [List.map_cons,List.getElem?_cons_succ] at h4 h5
      exact ih.2 i p q h4 h5
    ·cases hd
   ·cases hd
  ·cases hd
theorem viewC_ok (hC : CodecOk C) {lo wlo : Nat} {h : SH C} {H : Heap} (hS : SimH E lo wlo h H) : ∀ (f : Nat) (s : Option Nat) (x y : SV C.T) (a : AVal),viewC h f s x = some y → Er E x a → Er (away H) y a
 | 0,s,x,y,a,hv,hx => by cases hv
 | f + 1,none,x,y,a,hv,hx => by
  simp only [viewC] at hv
  cases hn : noId x with
  | false => rw [hn] at hv; cases hv
  | true =>
   rw [hn] at hv
   simp only [cond_true,Option.some.injEq] at hv
   subst hv
   exact to_away hC hS hx hn
 | f + 1,some n,x,y,a,hv,hx => by
  have ih := viewC_ok hC hS f
  simp only [viewC] at hv
  split at hv
  ·simp only [Option.some.injEq] at hv
   subst hv
   exact to_away hC hS hx rfl
  ·simp only [Option.some.injEq] at hv
   subst hv
   cases hx
   exact .tlN
  ·rename_i id
   split at hv
   ·rename_i m l full root ho
    simp only [Option.some.injEq] at hv
    subst hv
    cases hx with
    | R hg hs =>
     rcases hS.obj id _ (hget_some ho) with ⟨rfl,_,a',g1,g2⟩ | ⟨b,off,cap,ex,as,g1,g2,gw,g3,g4,g5,g6,g7,g8⟩
     ·rw [hg] at g1
      simp only [Option.some.injEq] at g1
      subst g1
      rcases g2 with rfl | rfl
      ·exact .tlN
      ·exact .tlL rfl rfl (fun i r h => by simp at h) (fun i y r j x a h => by simp at h)
     ·rw [hg] at g1
      simp only [Option.some.injEq] at g1
      subst g1
      have hm := Nat.mul_le_mul_right (C.sz m) g4
      refine .tlS rfl rfl g3 (by omega) g4 ?_
      intro i y j x a h1 h2 h3
      exact to_away hC hS (g8 i y j x a h1 h2 h3) (List.all_eq_true.1 (hC.ids m y) x (List.mem_of_getElem? h2))
   ·cases hv
  ·rename_i sz id off len cap ex
   split at hv
   ·rename_i cs ho
    split at hv
    ·rename_i hc
     split at hv
     ·rename_i xs h1
      simp only [Option.some.injEq] at hv
      subst hv
      cases hx with
      | sl hb =>
       obtain ⟨b,as,g1,_,g2,g3⟩ := hS.obj id _ (hget_some ho)
       rw [hb] at g1
       simp only [Option.some.injEq] at g1
       subst g1
       have hl := g3.1
       obtain ⟨rfl,hle,hlc⟩ := hc
       have hr := rowsV_ok hC ih (chunkS_ok (n := len) (z := C.sz n) (g3.drop off) (by simp; omega)) h1
       have hxl : len = xs.length := by
        have := hr.1
        rw [chunk_len] at this
        simpa using this.symm
       exact tl_rows hC (E1 := away H) g2 hxl (by omega) hlc hr
     ·cases hv
    ·cases hv
   ·cases hv
  ·rename_i sz rows ex
   cases hx
   split at hv
   ·rename_i hc
    split at hv
    ·rename_i xs h1
     simp only [Option.some.injEq] at hv
     subst hv
     have hr0 : RowsEr E (C.sz n) (rows.map (List.map (SV.a (T := C.T)))) rows := by
      refine ⟨by simp,fun i r ra h1 h2 => ?_⟩
      rw [List.getElem?_map,h2] at h1
      simp only [Option.map_some,Option.some.injEq] at h1
      subst h1
      refine ⟨Ers.mapA ra, ?_⟩
      have := List.all_eq_true.1 hc.2 ra (List.mem_of_getElem? h2)
      simp at this
      rw [this,hc.1]
     have hr := rowsV_ok hC ih hr0 h1
     refine .tlL hc.1 (by rw [← hr.1]; simp) (fun i r hi => hr.lens i r hi) ?_
     intro i y r j x a q1 q2 q3 q4
     exact (hr.2 i (C.enc n y) r (by simp [q1]) q2).1.2 j x a q3 q4
    ·cases hv
   ·cases hv
  ·cases hv
theorem takeTl_ok (hC : CodecOk C) {lo wlo : Nat} {h : SH C} {H : Heap} (hS : SimH E lo wlo h H) {n : Nat} {x : SV C.T} {a : AVal} {K : List (C.T n) → Tree} (hx : Er E x a) (hh : (takeTl h n x K).holds) : ∃ l,(K l).holds ∧ Er (away H) (.tl n l) a := by
 unfold takeTl at hh
 split at hh
 ·rename_i m l hv
  split at hh
  ·rename_i e
   subst e
   exact ⟨l,hh,viewC_ok hC hS _ _ _ _ _ hv hx⟩
  ·exact (stuck_no hh).elim
 ·exact (stuck_no hh).elim
theorem takeRow_ok (hC : CodecOk C) {lo wlo : Nat} {h : SH C} {H : Heap} (hS : SimH E lo wlo h H) {n : Nat} {cs : List (SV C.T)} {as : List AVal} {K : C.T n → Tree} (hx : Ers E cs as) (hh : (takeRow h n cs K).holds) : ∃ y,(K y).holds ∧ Ers (away H) (C.enc n y) as := by
 unfold takeRow at hh
 split at hh
 ·rename_i cs' hv
  obtain ⟨y,h1,h2⟩ := opt_some hh
  exact ⟨y,h2,hC.dec n cs' y h1 _ _ (viewL_ok (viewC_ok hC hS 4) hv hx)⟩
 ·exact (stuck_no hh).elim
theorem takeFrow_ok (hC : CodecOk C) {lo wlo : Nat} {h : SH C} {H : Heap} (hS : SimH E lo wlo h H) {n : Nat} {x : SV C.T} {a : AVal} {K : C.T n → Tree} (hx : Er E x a) (hh : (takeFrow h n x K).holds) : ∃ y,(K y).holds ∧ Er (away H) (.fp (C.enc n y)) a := by
 unfold takeFrow at hh
 split at hh
 ·split at hh
  ·rename_i cs hle
   have key : ∀ {as rest all : List AVal},all = as ++ rest → Ers E cs as → ∃ y,(K y).holds ∧ Ers (away H) (C.enc n y) (as.take (C.sz n)) ∧ all = as.take (C.sz n) ++ (as.drop (C.sz n) ++ rest) := by
    intro as rest all e hE
    obtain ⟨y,h1,h2⟩ := takeRow_ok hC hS (hE.take _) hh
    exact ⟨y,h1,h2,by rw [e,← List.append_assoc,List.take_append_drop]⟩
   cases hx with
   | fpI e hl hr =>
    obtain ⟨y,k0,k1,k2⟩ := key e ⟨hl,hr⟩
    exact ⟨y,k0,.fpI k2 k1.1 k1.2⟩
   | fpP hf e hl hr =>
    obtain ⟨y,k0,k1,k2⟩ := key e ⟨hl,hr⟩
    exact ⟨y,k0,.fpP (E := away H) (hS.fr _ _ hf).1 k2 k1.1 k1.2⟩
  ·exact (stuck_no hh).elim
 ·split at hh
  ·rename_i as hle
   cases hx
   obtain ⟨y,h1,h2⟩ := takeRow_ok hC hS (Ers.mapA _) hh
   exact ⟨y,h1,.fpI (List.take_append_drop _ _).symm h2.1 h2.2⟩
  ·exact (stuck_no hh).elim
 ·rename_i id off
  split at hh
  ·rename_i cs ho
   split at hh
   ·cases hx with
    | ptr hb =>
     obtain ⟨b,as,g1,_,g2,g3⟩ := hS.obj id _ (hget_some ho)
     rw [hb] at g1
     simp only [Option.some.injEq] at g1
     subst g1
     obtain ⟨y,h1,h2⟩ := takeRow_ok hC hS ((g3.drop off).take (C.sz n)) hh
     exact ⟨y,h1,.fpP (E := away H) g2 (List.take_append_drop _ _).symm h2.1 h2.2⟩
   ·exact (stuck_no hh).elim
  ·exact (stuck_no hh).elim
 ·exact (stuck_no hh).elim
theorem takeSkip_ok (hC : CodecOk C) {lo wlo : Nat} {h : SH C} {H : Heap} (hS : SimH E lo wlo h H) {k n : Nat} {x : SV C.T} {a : AVal} {K : C.T n → Tree} (hx : Er E x a) (hh : (takeSkip h k n x K).holds) : ∃ y,(K y).holds ∧ Er (away H) (.fp (List.replicate k .any ++ C.enc n y)) a := by
 unfold takeSkip at hh
 split at hh
 ·rename_i id off
  split at hh
  ·rename_i cs ho
   split at hh
   ·rename_i hle
    cases hx with
    | ptr hb =>
     obtain ⟨b,as,g1,_,g2,g3⟩ := hS.obj id _ (hget_some ho)
     rw [hb] at g1
     simp only [Option.some.injEq] at g1
     subst g1
     have hl := g3.1
     obtain ⟨y,h1,h2⟩ := takeRow_ok hC hS ((g3.drop (off + k)).take (C.sz n)) hh
     have hany : Ers (C := C) (away H) (List.replicate k .any) ((as.drop off).take k) := by
      refine ⟨by simp; omega,fun i x a q1 q2 => ?_⟩
      rw [List.getElem?_replicate] at q1
      split at q1
      ·cases q1; exact .any
      ·cases q1
     have hall := hany.append h2
     refine ⟨y,h1,.fpP (E := away H) (rest := as.drop (off + k + C.sz n)) g2 ?_ hall.1 hall.2⟩
     rw [List.append_assoc,← List.drop_drop (i := C.sz n) (j := off + k),List.take_append_drop,← List.drop_drop,List.take_append_drop]
   ·exact (stuck_no hh).elim
  ·exact (stuck_no hh).elim
 ·exact (stuck_no hh).elim
theorem Pat.take_ok (hC : CodecOk C) {lo wlo : Nat} {h : SH C} {H : Heap} (hS : SimH E lo wlo h H) {p : Pat C} {x : SV C.T} {a : AVal} {K : p.ty → Tree} (hx : Er E x a) (hh : (p.take h x K).holds) : ∃ y,(K y).holds ∧ Er (away H) (p.sv y) a := by
 cases p with
 | int k =>
  simp only [Pat.take] at hh
  split at hh
  ·rename_i k' n hi
   split at hh
   ·rename_i hk
    subst hk
    rw [intOf_ok hx hi]
    exact ⟨n,hh,.i _ _⟩
   ·exact (stuck_no hh).elim
  ·exact (stuck_no hh).elim
 | bool =>
  simp only [Pat.take] at hh
  split at hh
  ·rename_i b hi
   rw [boolOf_ok hx hi]
   exact ⟨b,hh,.b _⟩
  ·exact (stuck_no hh).elim
 | str =>
  simp only [Pat.take] at hh
  split at hh
  ·rename_i s hi
   rw [strOf_ok hx hi]
   exact ⟨s,hh,.s _⟩
  ·exact (stuck_no hh).elim
 | tl n => exact takeTl_ok hC hS hx hh
 | row n =>
  simp only [Pat.take] at hh
  split at hh
  ·cases hx with
   | agg hl hr =>
    obtain ⟨y,h1,h2⟩ := takeRow_ok hC hS ⟨hl,hr⟩ hh
    exact ⟨y,h1,.agg h2.1 h2.2⟩
  ·cases hx
   obtain ⟨y,h1,h2⟩ := takeRow_ok hC hS (Ers.mapA _) hh
   exact ⟨y,h1,.agg h2.1 h2.2⟩
  ·exact (stuck_no hh).elim
 | frow n => exact takeFrow_ok hC hS hx hh
 | fskip k n => exact takeSkip_ok hC hS hx hh
 | exact =>
  simp only [Pat.take] at hh
  split at hh
  ·rename_i v hl
   rw [litV_ok hx hl]
   exact ⟨_,hh,.a _⟩
  ·exact (stuck_no hh).elim
 | lit X f =>
  simp only [Pat.take] at hh
  split at hh
  ·rename_i v hl
   obtain ⟨y,rfl,h1⟩ := hh
   rw [litV_ok hx hl]
   exact ⟨y,h1,.a _⟩
  ·exact (stuck_no hh).elim
theorem takeAll_ok (hC : CodecOk C) {lo wlo : Nat} {h : SH C} {H : Heap} (hS : SimH E lo wlo h H) : ∀ {ps : List (Pat C)} {xs : List (SV C.T)} {as : List AVal} {K : tys ps → Tree},Ers E xs as → (takeAll h ps xs K).holds → ∃ y,(K y).holds ∧ Ers (away H) (argsS ps y) as
 | [],[],as,K,hx,hh => ⟨(),hh,by rw [hx.inv_nil]; exact Ers.nil⟩
 | [],_ :: _,as,K,hx,hh => (stuck_no hh).elim
 | _ :: _,[],as,K,hx,hh => (stuck_no hh).elim
 | p :: ps,x :: xs,as,K,hx,hh => by
  obtain ⟨a,as',rfl,h1,h2⟩ := hx.inv_cons
  obtain ⟨y,h3,h4⟩ := Pat.take_ok hC hS h1 hh
  obtain ⟨ys,h5,h6⟩ := takeAll_ok hC hS h2 h3
  exact ⟨(y,ys),h5,h6.cons h4⟩
theorem shiftL_eq {T : Nat → Type} (d : Nat) : ∀ (cs : List (SV T)),shiftL d cs = cs.map (shiftS d)
 | [] => rfl
 | x :: xs => by simp only [shiftL,List.map_cons,shiftL_eq d xs]
theorem pureL_eq {T : Nat → Type} : ∀ (cs : List (SV T)),pureL cs = cs.all pureS
 | [] => rfl
 | x :: xs => by simp only [pureL,List.all_cons,pureL_eq xs]
theorem shift_er {E E' : Env} {d : Nat} (hβ : ∀ id b,E.β id = some b → E'.β (id + d) = some b) (hγ : ∀ id a,E.γ id = some a → E'.γ (id + d) = some a) {x : SV C.T} {a : AVal} (h : Er E x a) : pureS x = true → Er E' (shiftS d x) a := by
 have list : ∀ {cs : List (SV C.T)} {as : List AVal},pureL cs = true → cs.length = as.length → (∀ (i : Nat) (x : SV C.T) (a : AVal),cs[i]? = some x → as[i]? = some a → pureS x = true → Er E' (shiftS d x) a) →
  (shiftL d cs).length = as.length ∧ ∀ (i : Nat) (x : SV C.T) (a : AVal),(shiftL d cs)[i]? = some x → as[i]? = some a → Er E' x a := by
  intro cs as hp hl ih
  rw [shiftL_eq]
  rw [pureL_eq] at hp
  refine ⟨by simp [hl],fun i x a h1 h2 => ?_⟩
  rw [List.getElem?_map,Option.map_eq_some_iff] at h1
  obtain ⟨y,h3,rfl⟩ := h1
  exact ih i y a h3 h2 (List.all_eq_true.1 hp y (List.mem_of_getElem? h3))
 induction h with
 | a v => exact fun _ => .a v
 | i k n => exact fun _ => .i k n
 | b x => exact fun _ => .b x
 | s x => exact fun _ => .s x
 | agg hl _ ih =>
  intro hp
  simp only [pureS] at hp
  obtain ⟨h1,h2⟩ := list hp hl ih
  simp only [shiftS]
  exact .agg h1 h2
 | tup hl _ ih =>
  intro hp
  simp only [pureS] at hp
  obtain ⟨h1,h2⟩ := list hp hl ih
  simp only [shiftS]
  exact .tup h1 h2
 | iface _ ih =>
  intro hp
  simp only [pureS] at hp
  simp only [shiftS]
  exact .iface (ih hp)
 | ptr h => intro _; simp only [shiftS]; exact .ptr (hβ _ _ h)
 | sl h => intro _; simp only [shiftS]; exact .sl (hβ _ _ h)
 | R h hs => intro _; simp only [shiftS]; exact .R (hγ _ _ h) hs
 | _ => intro hp; simp [pureS] at hp
theorem scal_er {E E' : Env} {x : SV C.T} {a : AVal} (h : Er E x a) (hs : scal x = true) : Er E' x a := by
 cases h <;> simp [scal] at hs <;> constructor
theorem shift_sim (hC : CodecOk C) {E E' : Env} {lo wlo : Nat} {h : SH C} {H H' : Heap} {objs : List (Obj C.T)} (hS : SimH E lo wlo h H) (hS' : SimH E' (max lo H.length) 0 (objs.map some) H') (hp : objs.all pureO = true) (hH : H.length ≤ H'.length) (hsame : ∀ b,b < H.length → H'[b]? = H[b]?) :
 ∃ E2,LeN h.length H.length E E2 ∧ SimH E2 lo wlo (h ++ objs.map fun o => some (shiftO h.length o)) H' ∧ ∀ {x : SV C.T} {a : AVal},pureS x = true → Er E' x a → Er E2 (shiftS h.length x) a := by
 let E2 : Env := ⟨fun i => if i < h.length then E.β i else E'.β (i - h.length),fun i => if i < h.length then E.γ i else E'.γ (i - h.length),fun b => if b < H.length then E.ω b else (E'.ω b).map (· + h.length),E.Fr⟩
 have eβ : ∀ i,E2.β i = if i < h.length then E.β i else E'.β (i - h.length) := fun _ => rfl
 have eγ : ∀ i,E2.γ i = if i < h.length then E.γ i else E'.γ (i - h.length) := fun _ => rfl
 have eω : ∀ b,E2.ω b = if b < H.length then E.ω b else (E'.ω b).map (· + h.length) := fun _ => rfl
 have hle : LeN h.length H.length E E2 := by
  refine ⟨⟨fun i b hb => ?_,fun i b hb => ?_,fun b r hr => ?_,fun _ _ h => h⟩,fun i hi => ⟨by rw [eβ,if_pos hi],by rw [eγ,if_pos hi]⟩,fun _ _ h => h,fun b r hr => ?_⟩
  ·have hi : i < h.length := by
    rcases Nat.lt_or_ge i h.length with k | k
    ·exact k
    ·rw [(hS.fresh i k).1] at hb; cases hb
   rw [eβ,if_pos hi]; exact hb
  ·have hi : i < h.length := by
    rcases Nat.lt_or_ge i h.length with k | k
    ·exact k
    ·rw [(hS.fresh i k).2] at hb; cases hb
   rw [eγ,if_pos hi]; exact hb
  ·rw [eω,if_pos (hS.own b r hr).1]; exact hr
  ·rw [eω] at hr
   split at hr
   ·exact .inl hr
   ·exact .inr (by omega)
 have sβ : ∀ id b,E'.β id = some b → E2.β (id + h.length) = some b := fun id b hb => by rw [eβ,if_neg (by omega),Nat.add_sub_cancel]; exact hb
 have sγ : ∀ id a,E'.γ id = some a → E2.γ (id + h.length) = some a := fun id a hb => by rw [eγ,if_neg (by omega),Nat.add_sub_cancel]; exact hb
 have hshift : ∀ {x : SV C.T} {a : AVal},pureS x = true → Er E' x a → Er E2 (shiftS h.length x) a := fun hx he => shift_er sβ sγ he hx
 have hbig : ∀ id b,E'.β id = some b → H.length ≤ b := fun id b hb => by have := hS'.low id b (Nat.zero_le _) hb; omega
 have sω : ∀ b r,H.length ≤ b → E'.ω b = some r → E2.ω b = some (r + h.length) := fun b r hb hr => by rw [eω,if_neg (by omega),hr]; rfl
 have look : ∀ (i : Nat) (o : Obj C.T),(h ++ objs.map fun o => some (shiftO h.length o))[i]? = some (some o) → (i < h.length ∧ h[i]? = some (some o)) ∨ ∃ j o',i = j + h.length ∧ objs[j]? = some o' ∧ o = shiftO h.length o' := by
  intro i o hi
  rcases Nat.lt_or_ge i h.length with k | k
  ·rw [List.getElem?_append_left k] at hi
   exact .inl ⟨k,hi⟩
  ·rw [List.getElem?_append_right k,List.getElem?_map,Option.map_eq_some_iff] at hi
   obtain ⟨o',h1,h2⟩ := hi
   cases h2
   exact .inr ⟨i - h.length,o',by omega,h1,rfl⟩
 have obj' : ∀ (j : Nat) (o' : Obj C.T),objs[j]? = some o' → (objs.map some)[j]? = some (some o') := fun j o' hj => by rw [List.getElem?_map,hj]; rfl
 refine ⟨E2,hle,⟨?_, ?_, ?_, ?_, ?_, ?_, ?_, ?_,by have := hS.wl; simp; omega,by have := hS.ll; omega⟩,hshift⟩
 ·intro i o hi
  rcases look i o hi with ⟨h1,h2⟩ | ⟨j,o',rfl,h2,rfl⟩
  ·exact ((hS.obj i o h2).heap fun b hb => hsame b (hS.bnd i b hb)).mono hle.le fun hn => by rw [(hle.old i h1).1]; exact hn
  ·have hpo := List.all_eq_true.1 hp o' (List.mem_of_getElem? h2)
   have ho := hS'.obj j o' (obj' j o' h2)
   cases o' with
   | cells cs =>
    obtain ⟨b,as,k1,k2,k3,k4⟩ := ho
    refine ⟨b,as,sβ _ _ k1,sω b _ (hbig _ _ k1) k2,k3, ?_⟩
    have hpl : pureL cs = true := hpo
    rw [pureL_eq] at hpl
    rw [shiftL_eq]
    refine ⟨by simp [k4.1],fun i x a h1 h3 => ?_⟩
    rw [List.getElem?_map,Option.map_eq_some_iff] at h1
    obtain ⟨y,h4,rfl⟩ := h1
    exact hshift (List.all_eq_true.1 hpl y (List.mem_of_getElem? h4)) (k4.2 i y a h4 h3)
   | mp es => simp [pureO] at hpo
   | it s pos => simp [pureO] at hpo
   | rows n l full root =>
    rcases ho with ⟨rfl,k1,a,k2,k3⟩ | ⟨b,off,cap,ex,as,k1,k2,k3,k4,k5,k6,k7,k8,k9⟩
    ·exact .inl ⟨rfl,by rw [eβ,if_neg (by omega),Nat.add_sub_cancel]; exact k1,a,sγ _ _ k2,k3⟩
    ·refine .inr ⟨b,off,cap,ex,as,sγ _ _ k1,sβ _ _ k2,sω b _ (hbig _ _ k2) k3,k4,k5,k6,k7,k8, ?_⟩
     intro i y jj x a q1 q2 q3
     exact scal_er (k9 i y jj x a q1 q2 q3) (List.all_eq_true.1 (hC.flat n y hpo) x (List.mem_of_getElem? q2))
 ·intro i i' o o' b hi hi' hb hb'
  rcases look i o hi with ⟨h1,h2⟩ | ⟨j,p,rfl,h2,rfl⟩ <;> rcases look i' o' hi' with ⟨h3,h4⟩ | ⟨j',p',rfl,h4,rfl⟩
  ·rw [(hle.old i h1).1] at hb
   rw [(hle.old i' h3).1] at hb'
   exact hS.inj i i' o o' b h2 h4 hb hb'
  ·rw [(hle.old i h1).1] at hb
   rw [eβ,if_neg (by omega),Nat.add_sub_cancel] at hb'
   have := hS.bnd i b hb
   have := hbig _ _ hb'
   omega
  ·rw [(hle.old i' h3).1] at hb'
   rw [eβ,if_neg (by omega),Nat.add_sub_cancel] at hb
   have := hS.bnd i' b hb'
   have := hbig _ _ hb
   omega
  ·rw [eβ,if_neg (by omega),Nat.add_sub_cancel] at hb hb'
   rw [hS'.inj j j' p p' b (obj' j p h2) (obj' j' p' h4) hb hb']
 ·intro b cs hf
  have hf : E.Fr b cs := hf
  obtain ⟨h1,h2⟩ := hS.fr b cs hf
  have hlt := lt_of_some h1
  refine ⟨by rw [hsame b hlt]; exact h1,fun i o hi hb => ?_⟩
  rcases look i o hi with ⟨h3,h4⟩ | ⟨j,p,rfl,h4,rfl⟩
  ·rw [(hle.old i h3).1] at hb
   exact h2 i o h4 hb
  ·rw [eβ,if_neg (by omega),Nat.add_sub_cancel] at hb
   have := hbig _ _ hb
   omega
 ·intro i hi
  simp only [List.length_append,List.length_map] at hi
  rw [eβ,eγ,if_neg (by omega),if_neg (by omega)]
  exact hS'.fresh (i - h.length) (by simp; omega)
 ·intro i b hw hb
  rw [eβ] at hb
  split at hb
  ·exact hS.low i b hw hb
  ·have := hS'.low _ b (Nat.zero_le _) hb; omega
 ·intro i b hb
  rw [eβ] at hb
  split at hb
  ·have := hS.bnd i b hb; omega
  ·exact hS'.bnd _ b hb
 ·intro b r hr
  rw [eω] at hr
  split at hr
  ·exact ⟨by have := (hS.own b r hr).1; omega,(hS.own b r hr).2⟩
  ·rename_i hlt
   rw [Option.map_eq_some_iff] at hr
   obtain ⟨r',h1,_⟩ := hr
   refine ⟨(hS'.own b r' h1).1,fun cs hf => ?_⟩
   have := lt_of_some (hS.fr b cs hf).1
   omega
 ·intro i b hb
  rw [eβ] at hb
  split at hb
  ·obtain ⟨r,hr⟩ := hS.βω i b hb
   exact ⟨r,by rw [eω,if_pos (hS.bnd i b hb)]; exact hr⟩
  ·obtain ⟨r,hr⟩ := hS'.βω _ b hb
   exact ⟨_,sω b r (hbig _ _ hb) hr⟩
theorem mkCtr_ok {F : Cf C} (hC : CodecOk C) (hX : ExtNo F.S F.noExt) (hL : HookLow F.S) {ctr : FuncId → Option (Ctr C)} (hctr : CtrOk F.S ctr) {f : FuncId} {fn : Func} {body : Code} (hf : F.S.P.funcs[f]? = some fn) (hb : fn.body = some body) (hk : F.S.hook f = none) (hp : F.S.pol f = .fresh)
 (D : CtrD C) (N : Nat) (cuts : tys D.pats → List (Nat × CutD C)) (hn : D.pats.length ≤ fn.ntmps) (hs : fn.ntmps ≤ 512) (hnd : nodupB ((allK body []).map (·.1)) = true)
 (hpure : ∀ x,D.pre x → pureS (D.res x) = true ∧ (D.objs x).all pureO = true)
 (hentry : ∀ x,D.pre x → (entryX F ctr N fn body ⟨cuts x,D.res x,D.objs x⟩ (argsS D.pats x)).holds)
 (hcuts : ∀ x,D.pre x → ∀ p,p ∈ cuts x → ∀ s,p.2.I s → (cutVC F ctr N fn body ⟨cuts x,D.res x,D.objs x⟩ p.1 p.2 s).holds) : CtrOk1 F.S f (mkCtr D) := by
 intro E lo wlo args h H K av hh hS hA
 obtain ⟨x,⟨hpre,hK⟩,hAx⟩ := takeAll_ok hC hS hA hh
 have hal : ∀ (ps : List (Pat C)) (y : tys ps),(argsS ps y).length = ps.length := by
  intro ps
  induction ps with
  | nil => intro y; rfl
  | cons p ps ih => intro y; simp only [argsS,List.length_cons,ih]
 have hS0 : SimH (away H) ((F.S.pol f).lo lo H) 0 ([] : SH C) H := away_sim (by rw [hp]; simp only [Pol.lo]; have := hS.ll; omega)
 obtain ⟨n,v,H',E',h1,h2,h4⟩ := fn_runs hC hX hL hctr hf hb hk (by rw [hp]; simp) ⟨cuts x,D.res x,D.objs x⟩ N (by rw [hal]; exact hn) hs hnd (hentry x hpre) (hcuts x hpre) hS0 hAx
 have hfr := callA_fresh (execA_low hL n) (by rw [hk]; rfl) hp h1
 rw [hp] at h2
 obtain ⟨E2,k1,k2,k3⟩ := shift_sim hC hS h2 (hpure x hpre).2 hfr.1 hfr.2
 exact ⟨v,H',_,_,E2,⟨n,h1⟩,k1,by simp,k2,hfr.1,k3 (hpure x hpre).1 h4,hK⟩
end Go.Sy

/- At the top: a law's run by its cuts; a law's arguments as typed rows. Generic: over any program. -/
namespace Go.Sy
open Go.Am
set_option linter.unusedVariables false
set_option linter.unusedSimpArgs false
variable {C : Codec}
noncomputable def toldCtr (v : AVal) : Ctr C := fun _ args h K => match args with
 | [] => K (.a v) h
 | _ => .stuck "told"
theorem toldCtr_ok {S : AStat} {f : FuncId} {v : AVal} (hk : S.hook f = some fun _ args H => match args with | [] => some (v,H) | _ => none) : CtrOk1 S f (toldCtr (C := C) v) := by
 intro E lo wlo args h H K av hh hS hA
 unfold toldCtr at hh
 split at hh
 ·rw [hA.inv_nil]
  exact ⟨v,H,_,_,E,⟨0,by simp only [callA,hk]⟩,LeN.refl _ _,Nat.le_refl _,hS,Nat.le_refl _,.a v,hh⟩
 ·exact (stuck_no hh).elim
structure Paid (t : Tree) : Prop where
 out : t.holds
theorem mkCtr_paid {F : Cf C} (hC : CodecOk C) (hX : ExtNo F.S F.noExt) (hL : HookLow F.S) {ctr : FuncId → Option (Ctr C)} (hctr : CtrOk F.S ctr) {f : FuncId} {fn : Func} {body : Code} (hf : F.S.P.funcs[f]? = some fn) (hb : fn.body = some body) (hk : F.S.hook f = none) (hp : F.S.pol f = .fresh)
 (D : CtrD C) (N : Nat) (cuts : tys D.pats → List (Nat × CutD C)) (hn : D.pats.length ≤ fn.ntmps) (hs : fn.ntmps ≤ 512) (hnd : nodupB ((allK body []).map (·.1)) = true)
 (hpure : ∀ x,D.pre x → pureS (D.res x) = true ∧ (D.objs x).all pureO = true)
 (hentry : ∀ x,D.pre x → Paid (entryX F ctr N fn body ⟨cuts x,D.res x,D.objs x⟩ (argsS D.pats x)))
 (hcuts : ∀ x,D.pre x → ∀ p,p ∈ cuts x → ∀ s,p.2.I s → Paid (cutVC F ctr N fn body ⟨cuts x,D.res x,D.objs x⟩ p.1 p.2 s)) : CtrOk1 F.S f (mkCtr D) :=
 mkCtr_ok hC hX hL hctr hf hb hk hp D N cuts hn hs hnd hpure (fun x h => (hentry x h).out) (fun x h p hm s hI => (hcuts x h p hm s hI).out)
def lookC : List (FuncId × Ctr C) → FuncId → Option (Ctr C)
 | [],_ => none
 | p :: l,f => bif Nat.beq p.1 f then some p.2 else lookC l f
theorem lookC_ok {S : AStat} : ∀ {l : List (FuncId × Ctr C)},(∀ p,p ∈ l → CtrOk1 S p.1 p.2) → CtrOk S (lookC l)
 | [],_,f,c,h => by cases h
 | p :: l,hl,f,c,h => by
  simp only [lookC] at h
  cases hb : Nat.beq p.1 f with
  | true =>
   rw [hb] at h
   simp only [cond_true,Option.some.injEq] at h
   rw [Nat.beq_eq] at hb
   subst hb h
   exact hl p (by simp)
  | false =>
   rw [hb] at h
   exact lookC_ok (fun q hq => hl q (List.mem_cons_of_mem _ hq)) f c h
def TyRow (C : Codec) (n : Nat) (ty : Ty) (R : C.T n → Prop) : Prop := ∀ cs,ty.Is cs → ∃ x,Ers (away []) (C.enc n x) cs ∧ R x
theorem slice_arg (hC : CodecOk C) {n : Nat} {e : Ty} {R : C.T n → Prop} (hr : TyRow C n e R) (hz : C.sz n = e.size) {a : AVal} (h : (Ty.slice e).Is [a]) : ∃ l : List (C.T n),Er (away []) (.tl n l) a ∧ l.length ≤ maxLen ∧ ∀ x,x ∈ l → R x := by
 simp only [Ty.Is,List.cons.injEq,and_true] at h
 rcases h with rfl | ⟨rows,ex,rfl,hl,hrows⟩
 ·exact ⟨[],.tlN,Nat.zero_le _,fun x h => by simp at h⟩
 ·have : ∃ l : List (C.T n),RowsEr (away []) (C.sz n) (l.map (C.enc n)) rows ∧ ∀ x,x ∈ l → R x := by
   clear hl
   induction rows with
   | nil => exact ⟨[],⟨rfl,fun i r ra h => by simp at h⟩,fun x h => by simp at h⟩
   | cons r rows ih =>
    obtain ⟨l,h1,h2⟩ := ih fun r hr => hrows r (List.mem_cons_of_mem _ hr)
    obtain ⟨x,h3,h4⟩ := hr r (hrows r (by simp))
    refine ⟨x :: l,⟨by simp [h1.1],fun i p ra g1 g2 => ?_⟩,fun y hy => ?_⟩
    ·cases i with
     | zero =>
      simp only [List.map_cons,List.getElem?_cons_zero,Option.some.injEq] at g1 g2
      subst g1 g2
      exact ⟨h3,by rw [← h3.1,hC.len]⟩
     | succ i =>
      simp only [List.map_cons,List.getElem?_cons_succ] at g1 g2
      exact h1.2 i p ra g1 g2
    ·rcases List.mem_cons.1 hy with rfl | hy
     ·exact h4
     ·exact h2 y hy
  obtain ⟨l,h1,h2⟩ := this
  have hll : rows.length = l.length := by rw [← h1.1]; simp
  refine ⟨l,.tlL hz.symm hll (fun i r hi => h1.lens i r hi) ?_,by omega,h2⟩
  intro i y r j x a q1 q2 q3 q4
  exact (h1.2 i (C.enc n y) r (by simp [q1]) q2).1.2 j x a q3 q4
theorem er_a {E : Env} {v a : AVal} (h : Er (C := C) E (.a v) a) : a = v := by cases h; rfl
theorem at_nat {n : Nat} {l : List (C.T n)} (i : Nat) : C.at n l (i : Int) = l.getD i (C.dflt n) := rfl
theorem at_get {n : Nat} {l : List (C.T n)} {i : Nat} (h : i < l.length) : C.at n l (i : Int) = l[i] := by
 rw [at_nat,List.getD_eq_getElem?_getD,List.getElem?_eq_getElem h]
 rfl
theorem wrap64 {n : Int} (h0 : -9223372036854775808 ≤ n) (h1 : n ≤ 9223372036854775807) : IntKind.wrap .i64 n = n := by
 simp only [IntKind.wrap,IntKind.signed,IntKind.bits]
 simp
 omega
end Go.Sy

/- Contracts of functions whose result, a list of plain rows, is sealed when they end. Generic: over any program. -/
namespace Go.Sy
open Go.Am
set_option linter.unusedVariables false
variable {C : Codec} {E : Env}
theorem Pat.take_mono {h : SH C} {p : Pat C} {x : SV C.T} {K1 K2 : p.ty → Tree} (hk : ∀ y,(K1 y).holds → (K2 y).holds) (hh : (p.take h x K1).holds) : (p.take h x K2).holds := by
 have row : ∀ (n : Nat) (cs : List (SV C.T)) (K1 K2 : C.T n → Tree),(∀ y,(K1 y).holds → (K2 y).holds) → (takeRow h n cs K1).holds → (takeRow h n cs K2).holds := by
  intro n cs K1 K2 hk hh
  unfold takeRow at hh ⊢
  split at hh
  ·obtain ⟨v,h1,h2⟩ := opt_some hh
   simp only [h1]
   exact hk v h2
  ·exact (stuck_no hh).elim
 cases p with
 | int k =>
  simp only [Pat.take] at hh ⊢
  split at hh
  ·split at hh
   ·rename_i hkk
    rw [if_pos hkk]
    exact hk _ hh
   ·exact (stuck_no hh).elim
  ·exact (stuck_no hh).elim
 | bool =>
  simp only [Pat.take] at hh ⊢
  split at hh
  ·exact hk _ hh
  ·exact (stuck_no hh).elim
 | str =>
  simp only [Pat.take] at hh ⊢
  split at hh
  ·exact hk _ hh
  ·exact (stuck_no hh).elim
 | tl n =>
  simp only [Pat.take,takeTl] at hh ⊢
  split at hh
  ·split at hh
   ·rename_i e
    rw [dif_pos e]
    exact hk _ hh
   ·exact (stuck_no hh).elim
  ·exact (stuck_no hh).elim
 | row n =>
  simp only [Pat.take] at hh ⊢
  split at hh
  ·exact row _ _ _ _ hk hh
  ·exact row _ _ _ _ hk hh
  ·exact (stuck_no hh).elim
 | frow n =>
  simp only [Pat.take,takeFrow] at hh ⊢
  split at hh
  ·split at hh
   ·rename_i e
    rw [if_pos e]
    exact row _ _ _ _ hk hh
   ·exact (stuck_no hh).elim
  ·split at hh
   ·rename_i e
    rw [if_pos e]
    exact row _ _ _ _ hk hh
   ·exact (stuck_no hh).elim
  ·split at hh
   ·split at hh
    ·rename_i e
     rw [if_pos e]
     exact row _ _ _ _ hk hh
    ·exact (stuck_no hh).elim
   ·exact (stuck_no hh).elim
  ·exact (stuck_no hh).elim
 | fskip k n =>
  simp only [Pat.take,takeSkip] at hh ⊢
  split at hh
  ·split at hh
   ·split at hh
    ·rename_i e
     rw [if_pos e]
     exact row _ _ _ _ hk hh
    ·exact (stuck_no hh).elim
   ·exact (stuck_no hh).elim
  ·exact (stuck_no hh).elim
 | exact =>
  simp only [Pat.take] at hh ⊢
  split at hh
  ·exact hk _ hh
  ·exact (stuck_no hh).elim
 | lit X f =>
  simp only [Pat.take] at hh ⊢
  split at hh
  ·obtain ⟨y,e,h1⟩ := hh
   exact ⟨y,e,hk _ h1⟩
  ·exact (stuck_no hh).elim
theorem takeAll_mono {h : SH C} : ∀ {ps : List (Pat C)} {xs : List (SV C.T)} {K1 K2 : tys ps → Tree},(∀ y,(K1 y).holds → (K2 y).holds) → (takeAll h ps xs K1).holds → (takeAll h ps xs K2).holds
 | [],[],K1,K2,hk,hh => hk _ hh
 | [],_ :: _,K1,K2,hk,hh => (stuck_no hh).elim
 | _ :: _,[],K1,K2,hk,hh => (stuck_no hh).elim
 | p :: ps,x :: xs,K1,K2,hk,hh => Pat.take_mono (fun y h1 => takeAll_mono (fun ys h2 => hk _ h2) h1) hh
end Go.Sy

/- Loops of functions that turn what they are handed: a call is gone through with cuts of its own, all objects keeping their names. Generic: over any program. -/
namespace Go.Sy
open Go.Am
set_option linter.unusedVariables false
set_option linter.unusedSimpArgs false
variable {C : Codec} {E : Env}
structure LpD (C : Codec) where
 pn : Nat
 St : Type
 I : St → Prop
 m : St → Nat
 regs : St → List (Nat × SV C.T)
 heap : St → SH C
def lpβ {α : Type} (n0 : Nat) (τ : Ren) (f : Nat → Option α) (i : Nat) : Option α := if i < n0 then f i else ((τ[i - n0]?).join).bind f
def Env.lp (E : Env) (n0 : Nat) (τ : Ren) : Env where
 β := lpβ n0 τ E.β
 γ := lpβ n0 τ E.γ
 ω := E.ω
 Fr := E.Fr
theorem lp_old {n0 : Nat} {τ : Ren} {α : Type} {f : Nat → Option α} {i : Nat} (h : i < n0) : lpβ n0 τ f i = f i := by unfold lpβ; rw [if_pos h]
theorem lp_new {n0 : Nat} {τ : Ren} {α : Type} {f : Nat → Option α} {i id : Nat} (h : n0 ≤ i) (hτ : τ[i - n0]? = some (some id)) : lpβ n0 τ f i = f id := by
 unfold lpβ
 rw [if_neg (by omega),hτ]
 rfl
def rowsO (n0 : Nat) (h fh : SH C) (id j : Nat) (K : Tree) : Tree :=
 match hget h id,hget fh j with
 | some (.rows n l full root),some (.rows m l0 full0 root0) => if e : n = m then bif Nat.beq root0 root && (!full0 || full) && (Nat.ble n0 id || (hget fh id).isNone) then .need (castL e l = l0) K else .stuck "lp: rows: room" else .stuck "lp: rows of another kind"
 | _,_ => .stuck "lp: rows"
def lpV (n0 : Nat) (h fh : SH C) : Nat → List (SV C.T × SV C.T) → Ren → (Ren → Tree) → Tree
 | 0,_,_,_ => .stuck "lp: fuel"
 | n + 1,[],τ,K => K τ
 | n + 1,(x,v0) :: W,τ,K =>
  match v0 with
  | .any => lpV n0 h fh n W τ K
  | .a v => match litV x with
   | some v' => .need (v' = v) (lpV n0 h fh n W τ K)
   | none => .stuck "lp: a"
  | .i k m => match intOf x with
   | some (k',m') => if k' = k then .need (m' = m) (lpV n0 h fh n W τ K) else .stuck "lp: kind"
   | none => .stuck "lp: i"
  | .b t => match boolOf x with
   | some t' => .need (t' = t) (lpV n0 h fh n W τ K)
   | none => .stuck "lp: b"
  | .s t => match strOf x with
   | some t' => .need (t' = t) (lpV n0 h fh n W τ K)
   | none => .stuck "lp: s"
  | .agg cs0 => match x with
   | .agg cs => bif Nat.beq cs.length cs0.length then lpV n0 h fh n (cs.zip cs0 ++ W) τ K else .stuck "lp: agg"
   | .a (.agg as) => bif Nat.beq as.length cs0.length then lpV n0 h fh n ((as.map .a).zip cs0 ++ W) τ K else .stuck "lp: agg"
   | _ => .stuck "lp: agg"
  | .tl m l => match x with
   | .tl m' l' => if e : m' = m then .need (castL e l' = l) (lpV n0 h fh n W τ K) else .stuck "lp: tl"
   | .a .nils => .need ([] = l) (lpV n0 h fh n W τ K)
   | _ => .stuck "lp: tl"
  | .ptr j off => match x with
   | .ptr id off' => bif Nat.beq off' off && Nat.beq id j && Nat.blt j n0 then lpV n0 h fh n W τ K else .stuck "lp: ptr"
   | _ => .stuck "lp: ptr"
  | .mapr j => match x with
   | .mapr id => bif Nat.beq id j && Nat.blt j n0 then lpV n0 h fh n W τ K else .stuck "lp: mapr"
   | _ => .stuck "lp: mapr"
  | .sl sz j off len cap ex => match x with
   | .sl sz' id off' len' cap' ex' => bif Nat.beq id j && Nat.blt j n0 then (if sz' = sz ∧ off' = off ∧ len' = len ∧ cap' = cap ∧ ex' = ex then lpV n0 h fh n W τ K else .stuck "lp: sl") else .stuck "lp: sl"
   | _ => .stuck "lp: sl"
  | .R j => match x with
   | .R id => bif Nat.blt j n0 then (bif Nat.beq id j then lpV n0 h fh n W τ K else .stuck "lp: R") else
    match τ[j - n0]? with
    | some (some id') => bif Nat.beq id' id then lpV n0 h fh n W τ K else .stuck "lp: two objects for one"
    | some none => bif τ.contains (some id) then .stuck "lp: one object for two" else rowsO n0 h fh id j (lpV n0 h fh n W (τ.set (j - n0) (some id)) K)
    | none => .stuck "lp: no such object"
   | _ => .stuck "lp: R"
  | _ => .stuck "lp: value"
def lpO (h fh : SH C) (j : Nat) (K : List (SV C.T × SV C.T) → Tree) : Tree :=
 match hget fh j with
 | none => K []
 | some (.cells cs0) => match hget h j with
  | some (.cells cs) => bif Nat.beq cs.length cs0.length then K (cs.zip cs0) else .stuck "lp: cells of another number"
  | _ => .stuck "lp: an object of another kind"
 | some (.mp es0) => match hget h j with
  | some (.mp es) => bif mpKeys es es0 then K (mpZip es es0) else .stuck "lp: a map of other numbers"
  | _ => .stuck "lp: an object of another kind"
 | some (.rows m l0 full0 root0) => match hget h j with
  | some (.rows n l full root) => if e : n = m then bif Nat.beq root0 root && (!full0 || full) then .need (castL e l = l0) (K []) else .stuck "lp: rows: room" else .stuck "lp: rows of another kind"
  | _ => .stuck "lp: an object of another kind"
 | some (.it _ _) => .stuck "lp: what goes through a string"
def lpOs (h fh : SH C) : Nat → (List (SV C.T × SV C.T) → Tree) → Tree
 | 0,K => K []
 | j + 1,K => lpOs h fh j fun W => lpO h fh j fun W1 => K (W1 ++ W)
def newOk (n0 : Nat) (fh : SH C) (τ : Ren) : Nat → Bool
 | 0 => true
 | i + 1 => newOk n0 fh τ i && (match hget fh (n0 + i) with
  | none => true
  | some (.rows _ _ _ _) => ((τ[i]?).join).isSome
  | some _ => false)
noncomputable def lpAll (n0 : Nat) (r : SR C) (h : SH C) (regs : List (Nat × SV C.T)) (fh : SH C) (K : Tree) : Tree :=
 bif Nat.ble n0 h.length && Nat.ble n0 fh.length then
  lpOs h fh n0 fun W => lpV n0 h fh 4000 (regs.map (fun q => (r.get q.1,q.2)) ++ W) (List.replicate (fh.length - n0) none) fun τ => bif newOk n0 fh τ (fh.length - n0) then K else .stuck "lp: an object that nothing leads to"
 else .stuck "lp: memory"
def GoodL (E : Env) (n0 : Nat) (τ : Ren) (p : SV C.T × SV C.T) : Prop := ∀ a,Er E p.1 a → Er (E.lp n0 τ) p.2 a
def RowL (n0 : Nat) (h fh : SH C) (j id : Nat) : Prop := ∃ n l full full0 root,h[id]? = some (some (.rows n l full root)) ∧ fh[j]? = some (some (.rows n l full0 root)) ∧ (full0 = true → full = true) ∧ (n0 ≤ id ∨ hget fh id = none)
theorem goodL_zip {n0 : Nat} {τ : Ren} {cs cs0 : List (SV C.T)} (hl : cs.length = cs0.length) (h : ∀ p,p ∈ cs.zip cs0 → GoodL E n0 τ p) {as : List AVal} (hE : Ers E cs as) : Ers (E.lp n0 τ) cs0 as := by
 refine ⟨by rw [← hl]; exact hE.1,fun i x0 a h1 h2 => ?_⟩
 have hi : i < cs.length := by rw [hl]; exact lt_of_some h1
 have hx : cs[i]? = some cs[i] := List.getElem?_eq_getElem hi
 have hz : (cs.zip cs0)[i]? = some (cs[i],x0) := by rw [List.getElem?_zip_eq_some]; exact ⟨hx,h1⟩
 exact h _ (List.mem_of_getElem? hz) a (hE.2 i _ a hx h2)
theorem hget_none_of {h : SH C} {i : Nat} (hh : hget h i = none) (o : Obj C.T) : h[i]? ≠ some (some o) := by
 intro e
 unfold hget at hh
 rw [e] at hh
 cases hh
def LpOut (E : Env) (n0 : Nat) (h fh : SH C) (W : List (SV C.T × SV C.T)) (τ : Ren) (K : Ren → Tree) : Prop :=
 ∃ τ',RenOk τ' ∧ RenLe τ τ' ∧ (K τ').holds ∧ (∀ p,p ∈ W → GoodL E n0 τ' p) ∧ (∀ (j id : Nat),τ'[j]? = some (some id) → τ[j]? = some (some id) ∨ RowL n0 h fh (n0 + j) id)
theorem LpOut.cons {n0 : Nat} {h fh : SH C} {W : List (SV C.T × SV C.T)} {p : SV C.T × SV C.T} {τ : Ren} {K : Ren → Tree} (h1 : LpOut E n0 h fh W τ K) (hg : ∀ τ',RenLe τ τ' → (∀ q,q ∈ W → GoodL E n0 τ' q) → GoodL E n0 τ' p) : LpOut E n0 h fh (p :: W) τ K := by
 obtain ⟨τ',k1,k2,k3,k4,k5⟩ := h1
 refine ⟨τ',k1,k2,k3,fun q hq => ?_,k5⟩
 rcases List.mem_cons.1 hq with rfl | hq
 ·exact hg τ' k2 k4
 ·exact k4 q hq
theorem LpOut.sub {n0 : Nat} {h fh : SH C} {W1 W : List (SV C.T × SV C.T)} {p : SV C.T × SV C.T} {τ : Ren} {K : Ren → Tree} (h1 : LpOut E n0 h fh (W1 ++ W) τ K) (hg : ∀ τ',(∀ q,q ∈ W1 → GoodL E n0 τ' q) → GoodL E n0 τ' p) : LpOut E n0 h fh (p :: W) τ K := by
 obtain ⟨τ',k1,k2,k3,k4,k5⟩ := h1
 refine ⟨τ',k1,k2,k3,fun q hq => ?_,k5⟩
 rcases List.mem_cons.1 hq with rfl | hq
 ·exact hg τ' fun q hq => k4 q (List.mem_append_left _ hq)
 ·exact k4 q (List.mem_append_right _ hq)
theorem lpV_ok (hC : CodecOk C) {n0 : Nat} {h fh : SH C} {K : Ren → Tree} : ∀ {n : Nat} {W : List (SV C.T × SV C.T)} {τ : Ren},(lpV n0 h fh n W τ K).holds → RenOk τ → LpOut E n0 h fh W τ K
 | 0,W,τ,hh,hτ => (stuck_no hh).elim
 | n + 1,[],τ,hh,hτ => ⟨τ,hτ,RenLe.refl _,hh,fun p hp => by simp at hp,fun j id h => .inl h⟩
 | n + 1,(x,v0) :: W,τ,hh,hτ => by
  simp only [lpV] at hh
  have ih := fun {W : List (SV C.T × SV C.T)} {τ : Ren} (h1 : (lpV n0 h fh n W τ K).holds) (h3 : RenOk τ) => lpV_ok hC (n := n) h1 h3
  split at hh
  ·exact (ih hh hτ).cons fun τ' _ _ a _ => .any
  ·rename_i v
   split at hh
   ·rename_i v' hl
    obtain ⟨rfl,hk⟩ := hh
    refine (ih hk hτ).cons fun τ' _ _ a ha => ?_
    rw [litV_ok ha hl]
    exact .a _
   ·exact (stuck_no hh).elim
  ·rename_i k m
   split at hh
   ·rename_i k' m' hi
    split at hh
    ·rename_i hk
     subst hk
     obtain ⟨rfl,hk⟩ := hh
     refine (ih hk hτ).cons fun τ' _ _ a ha => ?_
     rw [intOf_ok ha hi]
     exact .i _ _
    ·exact (stuck_no hh).elim
   ·exact (stuck_no hh).elim
  ·split at hh
   ·rename_i t' hi
    obtain ⟨rfl,hk⟩ := hh
    refine (ih hk hτ).cons fun τ' _ _ a ha => ?_
    rw [boolOf_ok ha hi]
    exact .b _
   ·exact (stuck_no hh).elim
  ·split at hh
   ·rename_i t' hi
    obtain ⟨rfl,hk⟩ := hh
    refine (ih hk hτ).cons fun τ' _ _ a ha => ?_
    rw [strOf_ok ha hi]
    exact .s _
   ·exact (stuck_no hh).elim
  ·rename_i cs0
   split at hh
   ·rename_i cs
    cases hb : Nat.beq cs.length cs0.length with
    | false => rw [hb] at hh; exact (stuck_no hh).elim
    | true =>
     rw [hb] at hh
     rw [Nat.beq_eq] at hb
     refine (ih hh hτ).sub fun τ' hg a ha => ?_
     cases ha with
     | agg hl hr =>
      have := goodL_zip hb hg ⟨hl,hr⟩
      exact .agg this.1 this.2
   ·rename_i as
    cases hb : Nat.beq as.length cs0.length with
    | false => rw [hb] at hh; exact (stuck_no hh).elim
    | true =>
     rw [hb] at hh
     rw [Nat.beq_eq] at hb
     refine (ih hh hτ).sub fun τ' hg a ha => ?_
     cases ha
     have := goodL_zip (by simpa using hb) hg (Ers.mapA as)
     exact .agg this.1 this.2
   ·exact (stuck_no hh).elim
  ·rename_i m l
   split at hh
   ·rename_i m' l'
    split at hh
    ·rename_i em
     subst em
     obtain ⟨he,hk⟩ := hh
     have he : l' = l := he
     subst he
     refine (ih hk hτ).cons fun τ' _ _ a ha => ?_
     exact noId_er hC (E := E) (E' := E.lp n0 τ') (fun _ _ h => h) ha rfl
    ·exact (stuck_no hh).elim
   ·obtain ⟨rfl,hk⟩ := hh
    refine (ih hk hτ).cons fun τ' _ _ a ha => ?_
    cases ha
    exact .tlN
   ·exact (stuck_no hh).elim
  ·rename_i j off
   split at hh
   ·rename_i id off'
    cases hb : (Nat.beq off' off && Nat.beq id j && Nat.blt j n0) with
    | false => rw [hb] at hh; exact (stuck_no hh).elim
    | true =>
     rw [hb] at hh
     simp only [Bool.and_eq_true,Nat.beq_eq,Nat.blt_eq] at hb
     obtain ⟨⟨rfl,rfl⟩,hj⟩ := hb
     refine (ih hh hτ).cons fun τ' _ _ a ha => ?_
     cases ha with
     | ptr hβ => exact .ptr (by show lpβ n0 τ' E.β id = _; rw [lp_old hj]; exact hβ)
   ·exact (stuck_no hh).elim
  ·rename_i j
   split at hh
   ·rename_i id
    cases hb : (Nat.beq id j && Nat.blt j n0) with
    | false => rw [hb] at hh; exact (stuck_no hh).elim
    | true =>
     rw [hb] at hh
     simp only [Bool.and_eq_true,Nat.beq_eq,Nat.blt_eq] at hb
     obtain ⟨rfl,hj⟩ := hb
     refine (ih hh hτ).cons fun τ' _ _ a ha => ?_
     cases ha with
     | mapr hβ => exact .mapr (by show lpβ n0 τ' E.β id = _; rw [lp_old hj]; exact hβ)
   ·exact (stuck_no hh).elim
  ·rename_i sz j off len cap ex
   split at hh
   ·rename_i sz' id off' len' cap' ex'
    cases hb : (Nat.beq id j && Nat.blt j n0) with
    | false => rw [hb] at hh; exact (stuck_no hh).elim
    | true =>
     rw [hb] at hh
     simp only [Bool.and_eq_true,Nat.beq_eq,Nat.blt_eq] at hb
     obtain ⟨rfl,hj⟩ := hb
     simp only [cond_true] at hh
     split at hh
     ·rename_i hq
      obtain ⟨rfl,rfl,rfl,rfl,rfl⟩ := hq
      refine (ih hh hτ).cons fun τ' _ _ a ha => ?_
      cases ha with
      | sl hβ => exact .sl (by show lpβ n0 τ' E.β id = _; rw [lp_old hj]; exact hβ)
     ·exact (stuck_no hh).elim
   ·exact (stuck_no hh).elim
  ·rename_i j
   split at hh
   ·rename_i id
    cases hjn : Nat.blt j n0 with
    | true =>
     rw [hjn] at hh
     simp only [cond_true] at hh
     rw [Nat.blt_eq] at hjn
     cases hb : Nat.beq id j with
     | false => rw [hb] at hh; exact (stuck_no hh).elim
     | true =>
      rw [hb] at hh
      rw [Nat.beq_eq] at hb
      subst hb
      refine (ih hh hτ).cons fun τ' _ _ a ha => ?_
      cases ha with
      | R hγ hs => exact .R (by show lpβ n0 τ' E.γ id = _; rw [lp_old hjn]; exact hγ) hs
    | false =>
     rw [hjn] at hh
     simp only [cond_false] at hh
     have hjn : n0 ≤ j := by
      rcases Nat.lt_or_ge j n0 with k | k
      ·rw [← Nat.blt_eq,hjn] at k; cases k
      ·exact k
     split at hh
     ·rename_i id' e
      cases hb : Nat.beq id' id with
      | false => rw [hb] at hh; exact (stuck_no hh).elim
      | true =>
       rw [hb] at hh
       rw [Nat.beq_eq] at hb
       subst hb
       refine (ih hh hτ).cons fun τ' hle _ a ha => ?_
       cases ha with
       | R hγ hs => exact .R (by show lpβ n0 τ' E.γ j = _; rw [lp_new hjn (hle.2 _ _ e)]; exact hγ) hs
     ·rename_i e
      cases hc : τ.contains (some id) with
      | true => rw [hc] at hh; exact (stuck_no hh).elim
      | false =>
       rw [hc] at hh
       simp only [cond_false] at hh
       have hj : j - n0 < τ.length := lt_of_some e
       have hfree : ∀ j' : Nat,τ[j']? ≠ some (some id) := by
        intro j' e'
        have : some id ∈ τ := List.mem_of_getElem? e'
        have h2 : τ.contains (some id) = true := by simpa using this
        rw [hc] at h2
        cases h2
       have get : ∀ j' : Nat,(τ.set (j - n0) (some id))[j']? = if j - n0 = j' then some (some id) else τ[j']? := by
        intro j'
        rw [List.getElem?_set]
        by_cases e2 : j - n0 = j'
        ·subst e2
         rw [if_pos rfl,if_pos rfl,if_pos hj]
        ·rw [if_neg e2,if_neg e2]
       have hok : RenOk (τ.set (j - n0) (some id)) := by
        intro a b i ha hb
        rw [get] at ha hb
        split at ha <;> split at hb
        ·omega
        ·cases ha; exact (hfree _ hb).elim
        ·cases hb; exact (hfree _ ha).elim
        ·exact hτ a b i ha hb
       have hle1 : RenLe τ (τ.set (j - n0) (some id)) := by
        refine ⟨by simp,fun j' id' h => ?_⟩
        rw [get]
        split
        ·rename_i e2; subst e2; rw [e] at h; cases h
        ·exact h
       unfold rowsO at hh
       split at hh
       ·rename_i n' l full root m' l0 full0 root0 h1 h2
        split at hh
        ·rename_i em
         subst em
         cases hl : (Nat.beq root0 root && (!full0 || full) && (Nat.ble n0 id || (hget fh id).isNone)) with
         | false => rw [hl] at hh; exact (stuck_no hh).elim
         | true =>
          rw [hl] at hh
          simp only [cond_true] at hh
          obtain ⟨he,hk⟩ := hh
          have he : l = l0 := he
          subst he
          rw [Bool.and_eq_true,Bool.and_eq_true,Nat.beq_eq] at hl
          obtain ⟨⟨rfl,hfull⟩,hid⟩ := hl
          obtain ⟨τ',k1,k2,k3,k4,k5⟩ := ih hk hok
          have hj1 : τ'[j - n0]? = some (some id) := k2.2 _ _ (by rw [get,if_pos rfl])
          refine ⟨τ',k1,hle1.trans k2,k3,fun q hq => ?_,fun j' id' h5 => ?_⟩
          ·rcases List.mem_cons.1 hq with rfl | hq
           ·intro a ha
            cases ha with
            | R hγ hs => exact .R (by show lpβ n0 τ' E.γ j = _; rw [lp_new hjn hj1]; exact hγ) hs
           ·exact k4 q hq
          ·rcases k5 j' id' h5 with h6 | h6
           ·rw [get] at h6
            split at h6
            ·rename_i e2
             cases h6
             subst e2
             refine .inr ⟨n',l,full,full0,root0,hget_some h1, ?_,fun hf => ?_, ?_⟩
             ·rw [show n0 + (j - n0) = j by omega]; exact hget_some h2
             ·rw [hf] at hfull; simpa using hfull
             ·rw [Bool.or_eq_true,Nat.ble_eq] at hid
              exact hid.imp (fun h => h) (fun h => by simpa using h)
            ·exact .inl h6
           ·exact .inr h6
        ·exact (stuck_no hh).elim
       ·exact (stuck_no hh).elim
     ·exact (stuck_no hh).elim
   ·exact (stuck_no hh).elim
  ·exact (stuck_no hh).elim
def PinO (h : SH C) (W : List (SV C.T × SV C.T)) (j : Nat) : Obj C.T → Prop
 | .cells cs0 => ∃ cs,h[j]? = some (some (.cells cs)) ∧ cs.length = cs0.length ∧ ∀ p,p ∈ cs.zip cs0 → p ∈ W
 | .mp es0 => ∃ es,h[j]? = some (some (.mp es)) ∧ mpKeys es es0 = true ∧ ∀ p,p ∈ mpZip es es0 → p ∈ W
 | .rows n l full0 root => ∃ full,h[j]? = some (some (.rows n l full root)) ∧ (full0 = true → full = true)
 | .it _ _ => False
theorem PinO.mono {h : SH C} {W W' : List (SV C.T × SV C.T)} {j : Nat} (hW : ∀ p,p ∈ W → p ∈ W') : ∀ {o : Obj C.T},PinO h W j o → PinO h W' j o
 | .cells cs0,⟨cs,h1,h2,h3⟩ => ⟨cs,h1,h2,fun p hp => hW p (h3 p hp)⟩
 | .mp es0,⟨es,h1,h2,h3⟩ => ⟨es,h1,h2,fun p hp => hW p (h3 p hp)⟩
 | .rows _ _ _ _,h => h
theorem lpO_ok {h fh : SH C} {j : Nat} {K : List (SV C.T × SV C.T) → Tree} (hh : (lpO h fh j K).holds) : ∃ W,(K W).holds ∧ ∀ o,fh[j]? = some (some o) → PinO h W j o := by
 unfold lpO at hh
 split at hh
 ·rename_i e
  exact ⟨[],hh,fun o ho => (hget_none_of e o ho).elim⟩
 ·rename_i cs0 e
  split at hh
  ·rename_i cs e2
   cases hb : Nat.beq cs.length cs0.length with
   | false => rw [hb] at hh; exact (stuck_no hh).elim
   | true =>
    rw [hb] at hh
    rw [Nat.beq_eq] at hb
    refine ⟨_,hh,fun o ho => ?_⟩
    rw [hget_some e] at ho
    cases ho
    exact ⟨cs,hget_some e2,hb,fun p hp => hp⟩
  ·exact (stuck_no hh).elim
 ·rename_i es0 e
  split at hh
  ·rename_i es e2
   cases hb : mpKeys es es0 with
   | false => rw [hb] at hh; exact (stuck_no hh).elim
   | true =>
    rw [hb] at hh
    refine ⟨_,hh,fun o ho => ?_⟩
    rw [hget_some e] at ho
    cases ho
    exact ⟨es,hget_some e2,hb,fun p hp => hp⟩
  ·exact (stuck_no hh).elim
 ·rename_i m l0 full0 root0 e
  split at hh
  ·rename_i n l full root e2
   split at hh
   ·rename_i em
    subst em
    cases hb : (Nat.beq root0 root && (!full0 || full)) with
    | false => rw [hb] at hh; exact (stuck_no hh).elim
    | true =>
     rw [hb] at hh
     obtain ⟨he,hk⟩ := hh
     have he : l = l0 := he
     subst he
     rw [Bool.and_eq_true,Nat.beq_eq] at hb
     obtain ⟨rfl,hfull⟩ := hb
     refine ⟨_,hk,fun o ho => ?_⟩
     rw [hget_some e] at ho
     cases ho
     exact ⟨full,hget_some e2,fun hf => by rw [hf] at hfull; simpa using hfull⟩
   ·exact (stuck_no hh).elim
  ·exact (stuck_no hh).elim
 ·exact (stuck_no hh).elim
theorem lpOs_ok {h fh : SH C} : ∀ {n : Nat} {K : List (SV C.T × SV C.T) → Tree},(lpOs h fh n K).holds → ∃ W,(K W).holds ∧ ∀ (j : Nat) (o : Obj C.T),j < n → fh[j]? = some (some o) → PinO h W j o
 | 0,K,hh => ⟨[],hh,fun j o hj => by omega⟩
 | n + 1,K,hh => by
  obtain ⟨W,h1,h2⟩ := lpOs_ok (n := n) hh
  obtain ⟨W1,h3,h4⟩ := lpO_ok h1
  refine ⟨W1 ++ W,h3,fun j o hj ho => ?_⟩
  rcases Nat.lt_or_ge j n with k | k
  ·exact (h2 j o k ho).mono fun p hp => List.mem_append_right _ hp
  ·have : j = n := by omega
   subst this
   exact (h4 o ho).mono fun p hp => List.mem_append_left _ hp
theorem newOk_ok {n0 : Nat} {fh : SH C} {τ : Ren} : ∀ {n : Nat},newOk n0 fh τ n = true → ∀ (i : Nat) (o : Obj C.T),i < n → fh[n0 + i]? = some (some o) → (∃ m l full root,o = .rows m l full root) ∧ ∃ id,τ[i]? = some (some id)
 | 0,_,i,o,hi,_ => by omega
 | n + 1,hh,i,o,hi,ho => by
  simp only [newOk,Bool.and_eq_true] at hh
  rcases Nat.lt_or_ge i n with k | k
  ·exact newOk_ok hh.1 i o k ho
  ·have : i = n := by omega
   subst this
   have h2 := hh.2
   have hg : hget fh (n0 + i) = some o := by unfold hget; rw [ho]
   rw [hg] at h2
   cases o with
   | rows m l full root =>
    refine ⟨⟨m,l,full,root,rfl⟩, ?_⟩
    cases hτ : τ[i]? with
    | none => rw [hτ] at h2; cases h2
    | some x =>
     cases x with
     | none => rw [hτ] at h2; cases h2
     | some id => exact ⟨id,rfl⟩
   | cells cs => cases h2
   | mp es => cases h2
   | it s p => cases h2
theorem mp_zipL {n0 : Nat} {τ : Ren} {es es0 : List (Int × SV C.T)} {as : List (AVal × AVal)} (hk : mpKeys es es0 = true) (h : ∀ p,p ∈ mpZip es es0 → GoodL E n0 τ p) (hE : MpOk E es as) : MpOk (E.lp n0 τ) es0 as := by
 simp only [mpKeys,Bool.and_eq_true,List.all_eq_true,List.any_eq_true,beq_iff_eq] at hk
 refine ⟨hE.keys,nodupI_ok hk.2,fun n x hx => ?_,fun n v hv => ?_⟩
 ·have hp := h _ (List.mem_map.2 ⟨(n,x),hx,rfl⟩)
  simp only at hp
  cases hf : es.find? fun p => p.1 == n with
  | some p =>
   rw [hf] at hp
   have hm := List.mem_of_find?_eq_some hf
   have hn := List.find?_some hf
   simp only [beq_iff_eq] at hn
   obtain ⟨m,y⟩ := p
   simp only at hn
   subst hn
   rcases hE.val m y hm with ⟨v,h1,h2⟩ | ⟨h1,h2⟩
   ·exact .inl ⟨v,h1,hp v h2⟩
   ·exact .inr ⟨h1,hp _ h2⟩
  | none =>
   rw [hf] at hp
   rw [List.find?_eq_none] at hf
   refine .inr ⟨?_,hp _ (.a _)⟩
   cases hv : mpAt n as with
   | none => rfl
   | some v =>
    obtain ⟨y,hy⟩ := hE.dom n v hv
    exact (hf _ hy (by simp)).elim
 ·obtain ⟨y,hy⟩ := hE.dom n v hv
  obtain ⟨q,hq,e⟩ := hk.1 _ hy
  obtain ⟨m,x⟩ := q
  simp only at e
  subst e
  exact ⟨x,hq⟩
theorem PinO.obj (hC : CodecOk C) {lo n0 : Nat} {h : SH C} {H : Heap} {W : List (SV C.T × SV C.T)} {τ : Ren} (hS : SimH E lo 0 h H) (hW : ∀ p,p ∈ W → GoodL E n0 τ p) {id : Nat} {o : Obj C.T} (k : id < n0) (hp : PinO h W id o) : (∃ o',h[id]? = some (some o')) ∧ ObjOk (E.lp n0 τ) H id o := by
 have hβ : (E.lp n0 τ).β id = E.β id := lp_old k
 have hγ : (E.lp n0 τ).γ id = E.γ id := lp_old k
 cases o with
 | cells cs0 =>
  obtain ⟨cs,h1,h2,h3⟩ := hp
  obtain ⟨b,as,k1,k2,k3,k4⟩ := hS.obj id _ h1
  exact ⟨⟨_,h1⟩,b,as,by rw [hβ]; exact k1,k2,k3,goodL_zip h2 (fun p hp => hW p (h3 p hp)) k4⟩
 | mp es0 =>
  obtain ⟨es,h1,h2,h3⟩ := hp
  obtain ⟨b,as,k1,k2,k3,k4⟩ := hS.obj id _ h1
  exact ⟨⟨_,h1⟩,b,as,by rw [hβ]; exact k1,k2,k3,mp_zipL h2 (fun p hp => hW p (h3 p hp)) k4⟩
 | rows n l full0 root =>
  obtain ⟨full,h1,h2⟩ := hp
  refine ⟨⟨_,h1⟩, ?_⟩
  rcases hS.obj id _ h1 with ⟨rfl,k1,a,k2,k3⟩ | ⟨b,off,cap,ex,as,k1,k2,k3,k4,k5,k6,k7,k8,k9⟩
  ·exact .inl ⟨rfl,by rw [hβ]; exact k1,a,by rw [hγ]; exact k2,k3⟩
  ·refine .inr ⟨b,off,cap,ex,as,by rw [hγ]; exact k1,by rw [hβ]; exact k2,k3,k4,k5,k6,k7,fun hf => k8 (h2 hf), ?_⟩
   intro i y jj x a q1 q2 q3
   exact noId_er hC (E := E) (E' := E.lp n0 τ) (fun _ _ h => h) (k9 i y jj x a q1 q2 q3) (List.all_eq_true.1 (hC.ids n y) x (List.mem_of_getElem? q2))
 | it s p => exact hp.elim
theorem lp_simO (hC : CodecOk C) {lo n0 : Nat} {h fh : SH C} {H : Heap} {τ : Ren} (hS : SimH E lo 0 h H) (hn : n0 ≤ h.length) (hf : n0 ≤ fh.length) (hτl : τ.length = fh.length - n0) (hτ : RenOk τ)
 (hobj : ∀ (j : Nat) (o : Obj C.T),j < n0 → fh[j]? = some (some o) → (∃ o',h[j]? = some (some o')) ∧ ObjOk (E.lp n0 τ) H j o) (hrow : ∀ (j id : Nat),τ[j]? = some (some id) → RowL n0 h fh (n0 + j) id) (hnew : newOk n0 fh τ (fh.length - n0) = true) :
 SimH (E.lp n0 τ) lo 0 fh H := by
 have nm : ∀ (i : Nat) (o : Obj C.T),fh[i]? = some (some o) → ∃ id,(E.lp n0 τ).β i = E.β id ∧ (E.lp n0 τ).γ i = E.γ id ∧ (∃ o',h[id]? = some (some o')) ∧ ((i < n0 ∧ id = i) ∨ (n0 ≤ i ∧ τ[i - n0]? = some (some id) ∧ (n0 ≤ id ∨ hget fh id = none))) := by
  intro i o hi
  rcases Nat.lt_or_ge i n0 with k | k
  ·exact ⟨i,lp_old k,lp_old k,(hobj i o k hi).1,.inl ⟨k,rfl⟩⟩
  ·have hi2 : i - n0 < fh.length - n0 := by have := lt_of_some hi; omega
   obtain ⟨_,id,hid⟩ := newOk_ok hnew (i - n0) o hi2 (by rw [show n0 + (i - n0) = i by omega]; exact hi)
   obtain ⟨n,l,full,full0,root,h1,_,_,h4⟩ := hrow _ _ hid
   exact ⟨id,lp_new k hid,lp_new k hid,⟨_,h1⟩,.inr ⟨k,hid,h4⟩⟩
 have back : ∀ (i b : Nat),(E.lp n0 τ).β i = some b → ∃ id,E.β id = some b ∧ (i < n0 → id = i) := by
  intro i b hb
  rcases Nat.lt_or_ge i n0 with k | k
  ·have : (E.lp n0 τ).β i = E.β i := lp_old k
   rw [this] at hb
   exact ⟨i,hb,fun _ => rfl⟩
  ·have hb : lpβ n0 τ E.β i = some b := hb
   unfold lpβ at hb
   rw [if_neg (by omega)] at hb
   cases hj : τ[i - n0]? with
   | none => rw [hj] at hb; cases hb
   | some o =>
    cases o with
    | none => rw [hj] at hb; cases hb
    | some id => rw [hj] at hb; exact ⟨id,hb,fun h => by omega⟩
 refine ⟨?_, ?_, ?_, ?_, ?_, ?_, ?_, ?_,Nat.zero_le _,hS.ll⟩
 ·intro i o hi
  obtain ⟨id,hβ,hγ,_,hc⟩ := nm i o hi
  rcases hc with ⟨k,rfl⟩ | ⟨k,hid,_⟩
  ·exact (hobj id o k hi).2
  ·obtain ⟨n,l,full,full0,root,h1,h2,h3,h4⟩ := hrow _ _ hid
   rw [show n0 + (i - n0) = i by omega,hi] at h2
   cases h2
   rcases hS.obj id _ h1 with ⟨rfl,k1,a,k2,k3⟩ | ⟨b,off,cap,ex,as,k1,k2,k3,k4,k5,k6,k7,k8,k9⟩
   ·exact .inl ⟨rfl,by rw [hβ]; exact k1,a,by rw [hγ]; exact k2,k3⟩
   ·refine .inr ⟨b,off,cap,ex,as,by rw [hγ]; exact k1,by rw [hβ]; exact k2,k3,k4,k5,k6,k7,fun hf => k8 (h3 hf), ?_⟩
    intro i y jj x a q1 q2 q3
    exact noId_er hC (E := E) (E' := E.lp n0 τ) (fun _ _ h => h) (k9 i y jj x a q1 q2 q3) (List.all_eq_true.1 (hC.ids n y) x (List.mem_of_getElem? q2))
 ·intro i i' o o' b hi hi' hb hb'
  obtain ⟨id,hβ,_,⟨p,hp⟩,hc⟩ := nm i o hi
  obtain ⟨id',hβ',_,⟨p',hp'⟩,hc'⟩ := nm i' o' hi'
  rw [hβ] at hb
  rw [hβ'] at hb'
  have e := hS.inj id id' p p' b hp hp' hb hb'
  subst e
  have live : ∀ (i : Nat) (o : Obj C.T),fh[i]? = some (some o) → hget fh i ≠ none := by
   intro i o h1 h2
   exact hget_none_of h2 o h1
  rcases hc with ⟨k,e1⟩ | ⟨k,h1,h2⟩ <;> rcases hc' with ⟨k',e2⟩ | ⟨k',h1',h2'⟩
  ·omega
  ·subst e1
   rcases h2' with h3 | h3
   ·omega
   ·exact (live _ _ hi h3).elim
  ·subst e2
   rcases h2 with h3 | h3
   ·omega
   ·exact (live _ _ hi' h3).elim
  ·have := hτ _ _ id h1 h1'
   omega
 ·intro b cs hf
  refine ⟨(hS.fr b cs hf).1,fun i o hi hb => ?_⟩
  obtain ⟨id,hβ,_,⟨p,hp⟩,_⟩ := nm i o hi
  rw [hβ] at hb
  exact (hS.fr b cs hf).2 id p hp hb
 ·intro i hi
  have h1 : τ[i - n0]? = none := by rw [List.getElem?_eq_none_iff]; omega
  have h2 : ∀ {α : Type} (f : Nat → Option α),lpβ n0 τ f i = none := by
   intro α f
   unfold lpβ
   rw [if_neg (by omega),h1]
   rfl
  exact ⟨h2 _,h2 _⟩
 ·intro i b _ hb
  obtain ⟨id,h1,_⟩ := back i b hb
  exact hS.low id b (Nat.zero_le _) h1
 ·intro i b hb
  obtain ⟨id,h1,_⟩ := back i b hb
  exact hS.bnd id b h1
 ·exact hS.own
 ·intro i b hb
  obtain ⟨id,h1,_⟩ := back i b hb
  exact hS.βω id b h1
theorem lp_sim (hC : CodecOk C) {lo n0 : Nat} {h fh : SH C} {H : Heap} {W : List (SV C.T × SV C.T)} {τ : Ren} (hS : SimH E lo 0 h H) (hn : n0 ≤ h.length) (hf : n0 ≤ fh.length) (hτl : τ.length = fh.length - n0) (hτ : RenOk τ)
 (hW : ∀ p,p ∈ W → GoodL E n0 τ p) (hpin : ∀ (j : Nat) (o : Obj C.T),j < n0 → fh[j]? = some (some o) → PinO h W j o) (hrow : ∀ (j id : Nat),τ[j]? = some (some id) → RowL n0 h fh (n0 + j) id) (hnew : newOk n0 fh τ (fh.length - n0) = true) :
 SimH (E.lp n0 τ) lo 0 fh H :=
 lp_simO hC hS hn hf hτl hτ (fun j o hj ho => (hpin j o hj ho).obj hC hS hW hj) hrow hnew
theorem lp_len {E0 : Env} {lo wlo n0 pn N0 : Nat} {h0 : SH C} {H0 : Heap} {τ : Ren} (hS : SimH E0 lo wlo h0 H0) (hn : h0.length = n0) (hpn : n0 ≤ pn) (hle : LeN n0 N0 E0 E) : LeN n0 N0 E0 (E.lp pn τ) := by
 have key : ∀ {α : Type} {f g : Nat → Option α},(∀ id a,f id = some a → g id = some a) → (∀ id,n0 ≤ id → f id = none) → ∀ id a,f id = some a → lpβ pn τ g id = some a := by
  intro α f g h1 h2 id a ha
  rcases Nat.lt_or_ge id n0 with k | k
  ·rw [lp_old (by omega)]; exact h1 id a ha
  ·rw [h2 id k] at ha; cases ha
 refine ⟨⟨key hle.le.β fun id hid => (hS.fresh id (by omega)).1,key hle.le.γ fun id hid => (hS.fresh id (by omega)).2,hle.le.ω,hle.le.Fr⟩,fun id hid => ?_,hle.fr,hle.own⟩
 have hid2 : id < pn := by omega
 exact ⟨(lp_old hid2 : lpβ pn τ E.β id = E.β id).trans (hle.old id hid).1,(lp_old hid2 : lpβ pn τ E.γ id = E.γ id).trans (hle.old id hid).2⟩
theorem lpAll_ok (hC : CodecOk C) {E0 : Env} {lo wlo n0 pn N0 : Nat} {h0 : SH C} {H0 H : Heap} {r : SR C} {ρ : List AVal} {h : SH C} {regs : List (Nat × SV C.T)} {fh : SH C} {K : Tree} (hS0 : SimH E0 lo wlo h0 H0) (hn : h0.length = n0) (hpn : n0 ≤ pn) (hle : LeN n0 N0 E0 E) (hR : SimR E r ρ) (hS : SimH E lo 0 h H) (hh : (lpAll pn r h regs fh K).holds) :
 K.holds ∧ pn ≤ fh.length ∧ ∃ E',SimR E' (SR.only r.n regs) ρ ∧ SimH E' lo 0 fh H ∧ LeN n0 N0 E0 E' := by
 unfold lpAll at hh
 cases hb : (Nat.ble pn h.length && Nat.ble pn fh.length) with
 | false => rw [hb] at hh; exact (stuck_no hh).elim
 | true =>
  rw [hb] at hh
  simp only [cond_true] at hh
  rw [Bool.and_eq_true,Nat.ble_eq,Nat.ble_eq] at hb
  obtain ⟨W,h1,h2⟩ := lpOs_ok hh
  obtain ⟨τ,k1,k2,k3,k4,k5⟩ := lpV_ok hC h1 (fun j j' id h _ => by rw [List.getElem?_replicate] at h; split at h <;> cases h)
  have k3 : (bif newOk pn fh τ (fh.length - pn) then K else Tree.stuck "lp: an object that nothing leads to").holds := k3
  cases hnew : newOk pn fh τ (fh.length - pn) with
  | false => rw [hnew] at k3; exact (stuck_no k3).elim
  | true =>
   rw [hnew] at k3
   have hrow : ∀ (j id : Nat),τ[j]? = some (some id) → RowL pn h fh (pn + j) id := fun j id hj => (k5 j id hj).resolve_left fun h => by rw [List.getElem?_replicate] at h; split at h <;> cases h
   refine ⟨k3,hb.2,E.lp pn τ, ?_,lp_sim hC hS hb.1 hb.2 (by rw [k2.1]; simp) k1 k4 (fun j o hj ho => (h2 j o hj ho).mono fun p hp => List.mem_append_right _ hp) hrow hnew,lp_len hS0 hn hpn hle⟩
   refine only_sim hR.len hR.small fun q hq => ?_
   exact k4 (r.get q.1,q.2) (List.mem_append_left _ (List.mem_map.2 ⟨q,hq,rfl⟩)) _ (hR.val q.1)
noncomputable def lpFam (n0 : Nat) (m0 : Option Nat) (c : LpD C) (r : SR C) (h : SH C) : Tree :=
 bif Nat.ble n0 c.pn then .ex c.St fun s => lpAll c.pn r h (c.regs s) (c.heap s) (.need (c.I s) (match m0 with
  | none => .ok
  | some m => .need (c.m s < m) .ok))
 else .stuck "names"
noncomputable def lpChk (nt n0 : Nat) (cuts : List (Nat × LpD C)) (sel : SR C → SH C → Nat) (m0 : Option Nat) : CutX C := fun rid => bif cuts.any fun p => Nat.beq p.1 rid then
 some fun r h => bif Nat.beq r.n nt then (match cuts[sel r h]? with
  | some p => bif Nat.beq p.1 rid then lpFam n0 m0 p.2 r h else .stuck "lp: elsewhere"
  | none => .stuck "lp: which") else .stuck "frame"
 else none
noncomputable def lpVC (F : Cf C) (ctr : FuncId → Option (Ctr C)) (N : Nat) (fn : Func) (body : Code) (n0 : Nat) (cuts : List (Nat × LpD C)) (sel : SR C → SH C → Nat) (fin : FinX C) (p : Nat × LpD C) : Tree :=
 .all p.2.St fun s => .imp (p.2.I s) (match (allK body []).find? fun q => Nat.beq q.1 p.1 with
  | some (_,.c (.region _ ops draw) :: k) => regionX F (callX F ctr (symx F ctr N)) 0 ops draw (SR.only fn.ntmps (p.2.regs s)) (p.2.heap s) fun r h => symx F ctr N (lpChk fn.ntmps n0 cuts sel (some (p.2.m s))) 0 k r h fin
  | _ => .stuck "no such cut")
noncomputable def lpVCs (F : Cf C) (ctr : FuncId → Option (Ctr C)) (N : Nat) (fn : Func) (body : Code) (n0 : Nat) (cuts : List (Nat × LpD C)) (sel : SR C → SH C → Nat) (fin : FinX C) : List (Nat × LpD C) → Tree → Tree
 | [],K => K
 | p :: l,K => .and (lpVC F ctr N fn body n0 cuts sel fin p) (lpVCs F ctr N fn body n0 cuts sel fin l K)
theorem lpVCs_ok {F : Cf C} {ctr : FuncId → Option (Ctr C)} {N : Nat} {fn : Func} {body : Code} {n0 : Nat} {cuts : List (Nat × LpD C)} {sel : SR C → SH C → Nat} {fin : FinX C} : ∀ {l : List (Nat × LpD C)} {K : Tree},(lpVCs F ctr N fn body n0 cuts sel fin l K).holds → K.holds ∧ ∀ p,p ∈ l → (lpVC F ctr N fn body n0 cuts sel fin p).holds
 | [],K,hh => ⟨hh,fun p hp => by simp at hp⟩
 | q :: l,K,hh => by
  obtain ⟨h1,h2⟩ := hh
  obtain ⟨h3,h4⟩ := lpVCs_ok (l := l) h2
  refine ⟨h3,fun p hp => ?_⟩
  rcases List.mem_cons.1 hp with rfl | hp
  ·exact h1
  ·exact h4 p hp
noncomputable def loopCtr (F : Cf C) (ctr : FuncId → Option (Ctr C)) (N : Nat) (fn : Func) (body : Code) (fam : List (SV C.T) → SH C → List (Nat × LpD C)) (sel : SR C → SH C → Nat) : Ctr C := fun wlo args h K =>
 bif Nat.beq wlo 0 && Nat.ble args.length fn.ntmps && Nat.ble fn.ntmps 512 then
  lpVCs F ctr N fn body h.length (fam args h) sel (fun _ r h' => resultsX F.S.P r h' fn.results.toList fun vs => K (tupledS vs) h') (fam args h)
   (symx F ctr N (lpChk fn.ntmps h.length (fam args h) sel none) 0 [.c body] (SR.frame args fn.ntmps) h fun _ r h' => resultsX F.S.P r h' fn.results.toList fun vs => K (tupledS vs) h')
 else .stuck "frame"
theorem loopCtr_ok {F : Cf C} (hC : CodecOk C) (hX : ExtNo F.S F.noExt) (hL : HookLow F.S) {ctr : FuncId → Option (Ctr C)} (hctr : CtrOk F.S ctr) {f : FuncId} {fn : Func} {body : Code} (hf : F.S.P.funcs[f]? = some fn) (hb : fn.body = some body) (hk : F.S.hook f = none) (hp : F.S.pol f = .keep)
 (N : Nat) (fam : List (SV C.T) → SH C → List (Nat × LpD C)) (sel : SR C → SH C → Nat) (hnd : nodupB ((allK body []).map (·.1)) = true) : CtrOk1 F.S f (loopCtr F ctr N fn body fam sel) := by
 intro E lo wlo args h H K av hh hS hA
 unfold loopCtr at hh
 cases hfr : (Nat.beq wlo 0 && Nat.ble args.length fn.ntmps && Nat.ble fn.ntmps 512) with
 | false => rw [hfr] at hh; exact (stuck_no hh).elim
 | true =>
 rw [hfr] at hh
 simp only [cond_true] at hh
 rw [Bool.and_eq_true,Bool.and_eq_true,Nat.beq_eq,Nat.ble_eq,Nat.ble_eq] at hfr
 obtain ⟨⟨rfl,hn⟩,hs⟩ := hfr
 obtain ⟨hentry,hvcs⟩ := lpVCs_ok hh
 generalize hcuts : fam args h = cuts at hentry hvcs
 have hR := frame_sim hA (n := fn.ntmps) (by rw [← hA.1]; exact hn) hs
 let fin : FinX C := fun _ r h' => resultsX F.S.P r h' fn.results.toList fun vs => K (tupledS vs) h'
 let Q : AExit → List AVal → Heap → Prop := fun _ ρ' H' => ∃ r' h' E',(resultsX F.S.P r' h' fn.results.toList fun vs => K (tupledS vs) h').holds ∧ SimR E' r' ρ' ∧ SimH E' lo 0 h' H' ∧ LeN h.length H.length E E' ∧ h.length ≤ h'.length ∧ H.length ≤ H'.length
 have hcut' : ∀ (m0 : Option Nat) {id : Nat} {chk : SR C → SH C → Tree},lpChk fn.ntmps h.length cuts sel m0 id = some chk → ∀ {r : SR C} {ρ : List AVal} {h1 : SH C} {H1 : Heap} {E1 : Env},(chk r h1).holds → SimR E1 r ρ → SimH E1 lo 0 h1 H1 → LeN h.length H.length E E1 →
  r.n = fn.ntmps ∧ ∃ p,p ∈ cuts ∧ p.1 = id ∧ ∃ s,p.2.I s ∧ (∀ m,m0 = some m → p.2.m s < m) ∧ h.length ≤ (p.2.heap s).length ∧ ∃ E',SimR E' (SR.only r.n (p.2.regs s)) ρ ∧ SimH E' lo 0 (p.2.heap s) H1 ∧ LeN h.length H.length E E' := by
  intro m0 id chk hc
  unfold lpChk at hc
  cases hany : (cuts.any fun p => Nat.beq p.1 id) with
  | false => rw [hany] at hc; cases hc
  | true =>
   rw [hany] at hc
   simp only [cond_true,Option.some.injEq] at hc
   subst hc
   intro r ρ h1 H1 E1 hh hR hS1 hle
   simp only at hh
   cases hbn : Nat.beq r.n fn.ntmps with
   | false => rw [hbn] at hh; exact (stuck_no hh).elim
   | true =>
   rw [hbn] at hh
   rw [Nat.beq_eq] at hbn
   simp only [cond_true] at hh
   split at hh
   ·rename_i p hp0
    cases hid : Nat.beq p.1 id with
    | false => rw [hid] at hh; exact (stuck_no hh).elim
    | true =>
    rw [hid] at hh
    rw [Nat.beq_eq] at hid
    simp only [cond_true] at hh
    have hmem := List.mem_of_getElem? hp0
    unfold lpFam at hh
    cases hpn : Nat.ble h.length p.2.pn with
    | false => rw [hpn] at hh; exact (stuck_no hh).elim
    | true =>
    rw [hpn] at hh
    rw [Nat.ble_eq] at hpn
    obtain ⟨s,hs⟩ := hh
    obtain ⟨g1,g2,g3⟩ := lpAll_ok hC hS rfl hpn hle hR hS1 hs
    refine ⟨hbn,p,hmem,hid,s,g1.1,fun m hm => ?_,by omega,g3⟩
    subst hm
    exact g1.2.1
   ·exact (stuck_no hh).elim
 have cut : ∀ (M : Nat) (p : Nat × LpD C) (s : p.2.St),p ∈ cuts → p.2.I s → p.2.m s < M → h.length ≤ (p.2.heap s).length → ∀ (k : List Kt),(p.1,k) ∈ allK body [] → SubK (allK body []) k → ∀ (E1 : Env) (ρ1 : List AVal) (H1 : Heap),SimR E1 (SR.only fn.ntmps (p.2.regs s)) ρ1 → SimH E1 lo 0 (p.2.heap s) H1 → LeN h.length H.length E E1 → H.length ≤ H1.length →
  ∃ x ρ' H',RunsK F.S lo k ρ1 H1 (x,ρ',H') ∧ Q x ρ' H' := by
  intro M
  induction M with
  | zero => intro p s _ _ hm; omega
  | succ M ih =>
   intro p s hpc hI hm hhl k hkm hsub E1 ρ1 H1 hR1 hS1 hle1 hHl
   have hv := hvcs p hpc s hI
   split at hv
   ·rename_i rid id ops draw k0 hfind
    obtain ⟨hmem,hrid⟩ := find_ok hfind
    simp only at hrid
    subst hrid
    have hkk := nodupB_uniq hnd hkm hmem
    subst hkk
    obtain ⟨ρ2,H2,r2,h2,E2,q1,q2,q3,q4,q5,q6,q7⟩ := regionX_ok (id := id) hC hX hL (callX_ok hC hctr (symx_ok hC hX hL hctr N)) hR1 hS1 hv
    have big : ∀ {E' : Env} {n N : Nat},h.length ≤ n → H.length ≤ N → LeN n N E1 E' → LeN h.length H.length E E' := fun h1 h2 h3 => hle1.trans h1 h2 h3
    obtain ⟨x,ρ',H',g1,g2⟩ := symx_ok hC hX hL hctr N _ _ _ _ _ _ _ _ _ _ (allK body []) Q q7 q4 q5 hsub.2
     (fun x r' h' E' ρ' H' p1 p2 p3 p4 p5 p6 => ⟨r',h',E',p1,p2,p3,big hhl hHl (q2.trans q3 q6 p4),by omega,by omega⟩)
     (fun id' chk k' r' h' E' ρ' H' p0 p00 p000 p1 p2 p3 p4 p5 p6 => by
      obtain ⟨hr'n,p',w1,w2,s',w4,w5,w6,E'',w7,w8,w9⟩ := hcut' _ p0 p1 p2 p3 (big hhl hHl (q2.trans q3 q6 p4))
      rw [hr'n] at w7
      exact ih p' s' w1 w4 (by have := w5 _ rfl; omega) w6 k' (by rw [w2]; exact p00) p000 E'' ρ' H' w7 w8 w9 (by omega))
    exact ⟨x,ρ',H',.c q1 g1,g2⟩
   ·exact (stuck_no hv).elim
 obtain ⟨x,ρ',H',hrun,r',h',E',k1,k2,k3,k4,k5,k6⟩ := symx_ok hC hX hL hctr N _ _ _ _ _ _ _ _ _ _ (allK body []) Q hentry hR hS ⟨fun y hy => hy,trivial⟩
  (fun x r' h' E' ρ' H' p1 p2 p3 p4 p5 p6 => ⟨r',h',E',p1,p2,p3,p4,p5,p6⟩)
  (fun id' chk k' r' h' E' ρ' H' p0 p00 p000 p1 p2 p3 p4 p5 p6 => by
   obtain ⟨hr'n,p',w1,w2,s',w4,w5,w6,E'',w7,w8,w9⟩ := hcut' _ p0 p1 p2 p3 p4
   rw [hr'n] at w7
   exact cut (p'.2.m s' + 1) p' s' w1 w4 (by omega) w6 k' (by rw [w2]; exact p00) p000 E'' ρ' H' w7 w8 w9 p6)
 obtain ⟨hrun,hne⟩ := hrun.out
 obtain ⟨vs,as,e1,e2,e3⟩ := resultsX_ok (S := F.S) hC k2 k3 k1
 obtain ⟨m,hm⟩ := hrun
 refine ⟨tupled as,H',tupledS vs,h',E',⟨m, ?_⟩,k4,k5,k3,k6,tupled_er e2,e3⟩
 simp only [callA,hk,hf,hb,hp,Pol.lo]
 rw [hm]
 cases x with
 | exit i => exact (hne i rfl).elim
 | normal => simp only [e1]; rfl
 | ret => simp only [e1]; rfl
noncomputable def selX (nt : Nat) (D : FnD C) (sel : Nat → SR C → SH C → Option Nat) (m0 : Option Nat) : CutX C := fun rid => bif D.cuts.any fun p => Nat.beq p.1 rid then
 some fun r h => bif Nat.beq r.n nt then (match sel rid r h with
  | some i => match D.cuts[i]? with
   | some p => bif Nat.beq p.1 rid then famX m0 p.2 r h else .stuck "sel: elsewhere"
   | none => .stuck "sel: which"
  | none => .stuck "sel: none") else .stuck "frame"
 else none
noncomputable def entryS (F : Cf C) (ctr : FuncId → Option (Ctr C)) (N : Nat) (fn : Func) (body : Code) (D : FnD C) (sel : Nat → SR C → SH C → Option Nat) (args : List (SV C.T)) : Tree :=
 symx F ctr N (selX fn.ntmps D sel none) 0 [.c body] (SR.frame args fn.ntmps) [] (finX F.S.P fn.results.toList D)
noncomputable def cutS (F : Cf C) (ctr : FuncId → Option (Ctr C)) (N : Nat) (fn : Func) (body : Code) (D : FnD C) (sel : Nat → SR C → SH C → Option Nat) (rid : Nat) (c : CutD C) (s : c.St) : Tree :=
 match (allK body []).find? fun p => Nat.beq p.1 rid with
 | some (_,.c (.region _ ops draw) :: k) => regionX F (callX F ctr (symx F ctr N)) 0 ops draw (SR.only fn.ntmps (c.regs s)) ((c.objs s).map some) fun r h => symx F ctr N (selX fn.ntmps D sel (some (c.m s))) 0 k r h (finX F.S.P fn.results.toList D)
 | _ => .stuck "no such cut"
theorem fn_runsS {F : Cf C} (hC : CodecOk C) (hX : ExtNo F.S F.noExt) (hL : HookLow F.S) {ctr : FuncId → Option (Ctr C)} (hctr : CtrOk F.S ctr) {f : FuncId} {fn : Func} {body : Code} (hf : F.S.P.funcs[f]? = some fn) (hb : fn.body = some body) (hk : F.S.hook f = none)
 (D : FnD C) (sel : Nat → SR C → SH C → Option Nat) (N : Nat) {args : List (SV C.T)} (hn : args.length ≤ fn.ntmps) (hs : fn.ntmps ≤ 512) (hnd : nodupB ((allK body []).map (·.1)) = true)
 (hentry : (entryS F ctr N fn body D sel args).holds) (hcuts : ∀ p,p ∈ D.cuts → ∀ s,p.2.I s → (cutS F ctr N fn body D sel p.1 p.2 s).holds)
 {lo : Nat} {H : Heap} {av : List AVal} (hS : SimH E ((F.S.pol f).lo lo H) 0 ([] : SH C) H) (hA : Ers E args av) :
 ∃ n v H' E',callA F.S (execA F.S n) lo f av H = finish (F.S.pol f) H v H' ∧ SimH E' ((F.S.pol f).lo lo H) 0 (D.objs.map some) H' ∧ Er E' D.res v := by
 -- where a run ends
 let Q : AExit → List AVal → Heap → Prop := fun _ ρ' H' => ∃ r' h' E',(finX F.S.P fn.results.toList D .ret r' h').holds ∧ SimR E' r' ρ' ∧ SimH E' ((F.S.pol f).lo lo H) 0 h' H'
 have hcut' : ∀ (m0 : Option Nat) {id : Nat} {chk : SR C → SH C → Tree},selX fn.ntmps D sel m0 id = some chk → ∀ {r : SR C} {ρ : List AVal} {h : SH C} {lo : Nat} {H : Heap} {E1 : Env},(chk r h).holds → SimR E1 r ρ → SimH E1 lo 0 h H →
  r.n = fn.ntmps ∧ ∃ p,p ∈ D.cuts ∧ p.1 = id ∧ ∃ s,p.2.I s ∧ (∀ m,m0 = some m → p.2.m s < m) ∧ ∃ E',SimR E' (SR.only r.n (p.2.regs s)) ρ ∧ SimH E' lo 0 ((p.2.objs s).map some) H := by
  intro m0 id chk hc
  unfold selX at hc
  cases hany : (D.cuts.any fun p => Nat.beq p.1 id) with
  | false => rw [hany] at hc; cases hc
  | true =>
   rw [hany] at hc
   simp only [cond_true,Option.some.injEq] at hc
   subst hc
   intro r ρ h lo H E1 hh hR hS
   simp only at hh
   cases hb : Nat.beq r.n fn.ntmps with
   | false => rw [hb] at hh; exact (stuck_no hh).elim
   | true =>
   rw [hb] at hh
   rw [Nat.beq_eq] at hb
   simp only [cond_true] at hh
   split at hh
   ·rename_i i hi
    split at hh
    ·rename_i p hp
     cases hid : Nat.beq p.1 id with
     | false => rw [hid] at hh; exact (stuck_no hh).elim
     | true =>
      rw [hid] at hh
      rw [Nat.beq_eq] at hid
      obtain ⟨s,hs⟩ := hh
      obtain ⟨⟨g1,g2⟩,g3⟩ := leAll_ok hC hR hS hs
      refine ⟨hb,p,List.mem_of_getElem? hp,hid,s,g1,fun m hm => ?_,g3⟩
      subst hm
      exact g2.1
    ·exact (stuck_no hh).elim
   ·exact (stuck_no hh).elim
 have cut : ∀ (M : Nat) (p : Nat × CutD C) (s : p.2.St),p ∈ D.cuts → p.2.I s → p.2.m s < M → ∀ (k : List Kt),(p.1,k) ∈ allK body [] → SubK (allK body []) k → ∀ (E1 : Env) (ρ1 : List AVal) (H1 : Heap),SimR E1 (SR.only fn.ntmps (p.2.regs s)) ρ1 → SimH E1 ((F.S.pol f).lo lo H) 0 ((p.2.objs s).map some) H1 →
  ∃ x ρ' H',RunsK F.S ((F.S.pol f).lo lo H) k ρ1 H1 (x,ρ',H') ∧ Q x ρ' H' := by
  intro M
  induction M with
  | zero => intro p s _ _ hm; omega
  | succ M ih =>
   intro p s hpc hI hm k hkm hsub E1 ρ1 H1 hR1 hS1
   have hv := hcuts p hpc s hI
   unfold cutS at hv
   split at hv
   ·rename_i rid id ops draw k0 hfind
    obtain ⟨hmem,hrid⟩ := find_ok hfind
    simp only at hrid
    subst hrid
    have hkk := nodupB_uniq hnd hkm hmem
    subst hkk
    obtain ⟨ρ2,H2,r2,h2,E2,q1,q2,q3,q4,q5,q6,q7⟩ := regionX_ok (id := id) hC hX hL (callX_ok hC hctr (symx_ok hC hX hL hctr N)) hR1 hS1 hv
    obtain ⟨x,ρ',H',g1,g2⟩ := symx_ok hC hX hL hctr N _ _ _ _ _ _ _ _ _ _ (allK body []) Q q7 q4 q5 hsub.2
     (fun x r' h' E' ρ' H' p1 p2 p3 p4 p5 p6 => ⟨r',h',E',p1,p2,p3⟩)
     (fun id' chk k' r' h' E' ρ' H' p0 p00 p000 p1 p2 p3 p4 p5 p6 => by
      obtain ⟨hr'n,p',w1,w2,s',w4,w5,E'',w7,w8⟩ := hcut' _ p0 p1 p2 p3
      rw [hr'n] at w7
      exact ih p' s' w1 w4 (by have := w5 _ rfl; omega) k' (by rw [w2]; exact p00) p000 E'' ρ' H' w7 w8)
    exact ⟨x,ρ',H',.c q1 g1,g2⟩
   ·exact (stuck_no hv).elim
 have hR0 := frame_sim hA (n := fn.ntmps) (by rw [← hA.1]; exact hn) hs
 have hsub0 : SubK (allK body []) [.c body] := ⟨fun y hy => hy,trivial⟩
 obtain ⟨x,ρ',H',g1,g2⟩ := symx_ok hC hX hL hctr N _ _ _ _ _ _ _ _ _ _ (allK body []) Q hentry hR0 hS hsub0
  (fun x r' h' E' ρ' H' p1 p2 p3 p4 p5 p6 => ⟨r',h',E',p1,p2,p3⟩)
  (fun id' chk k' r' h' E' ρ' H' p0 p00 p000 p1 p2 p3 p4 p5 p6 => by
   obtain ⟨hr'n,p',w1,w2,s',w4,w5,E'',w7,w8⟩ := hcut' _ p0 p1 p2 p3
   rw [hr'n] at w7
   exact cut (p'.2.m s' + 1) p' s' w1 w4 (by omega) k' (by rw [w2]; exact p00) p000 E'' ρ' H' w7 w8)
 obtain ⟨r',h',E',w1,w2,w3⟩ := g2
 obtain ⟨hrun,hne⟩ := g1.out
 obtain ⟨vs,as,e1,e2,e3⟩ := resultsX_ok (S := F.S) hC w2 w3 w1
 obtain ⟨E'',e5,e6⟩ := leRes_ok hC (tupled_er e2) w3 e3
 obtain ⟨m,hm⟩ := hrun
 refine ⟨m,tupled as,H',E'', ?_,e6,e5⟩
 simp only [callA,hk,hf,hb]
 rw [hm]
 cases x with
 | exit i => exact (hne i rfl).elim
 | normal => simp only [e1]
 | ret => simp only [e1]
theorem law_runsS {F : Cf C} (hC : CodecOk C) (hX : ExtNo F.S F.noExt) (hL : HookLow F.S) {ctr : FuncId → Option (Ctr C)} (hctr : CtrOk F.S ctr) {f : FuncId} {fn : Func} {body : Code} (hf : F.S.P.funcs[f]? = some fn) (hb : fn.body = some body) (hk : F.S.hook f = none) (hp : F.S.pol f = .keep)
 (N : Nat) {args : List (SV C.T)} (cuts : List (Nat × CutD C)) (sel : Nat → SR C → SH C → Option Nat) (hn : args.length ≤ fn.ntmps) (hs : fn.ntmps ≤ 512) (hnd : nodupB ((allK body []).map (·.1)) = true)
 (hentry : Paid (entryS F ctr N fn body ⟨cuts,.b true,[]⟩ sel args)) (hcuts : ∀ p,p ∈ cuts → ∀ s,p.2.I s → Paid (cutS F ctr N fn body ⟨cuts,.b true,[]⟩ sel p.1 p.2 s))
 {av : List AVal} (hA : Ers (away []) args av) : ∃ n H',runA F.S n 0 f av [] = some (.bool true,H') := by
 have hS0 : SimH (away []) ((F.S.pol f).lo 0 []) 0 ([] : SH C) [] := away_sim (by rw [hp]; simp only [Pol.lo]; exact Nat.le_refl _)
 obtain ⟨n,v,H',E',h1,h2,h3⟩ := fn_runsS hC hX hL hctr hf hb hk ⟨cuts,.b true,[]⟩ sel N hn hs hnd hentry.out (fun p hm s hI => (hcuts p hm s hI).out) hS0 hA
 rw [hp] at h1
 cases h3
 exact ⟨n,H',h1⟩
end Go.Sy

/- What a call does to what it is handed, told by states: a contract with the memory ahead of it and behind it, each as families by names. Generic: over any program. -/
namespace Go.Sy
open Go.Am
set_option linter.unusedVariables false
set_option linter.unusedSimpArgs false
variable {C : Codec} {E : Env}
structure OutD (C : Codec) (S : Type) where
 St : Type
 I : S → St → Prop
 heap : St → SH C
structure SumD (C : Codec) where
 pn : Nat
 St : Type
 I : St → Prop
 args : St → List (SV C.T)
 heap : St → SH C
 outs : List (OutD C St)
 sel : SH C → Nat
end Go.Sy

/- What a call does to a few objects, told by states; the others stay as they are, whatever they are. Generic: over any program. -/
namespace Go.Sy
open Go.Am
set_option linter.unusedVariables false
set_option linter.unusedSimpArgs false
variable {C : Codec} {E : Env}
def ltV {T : Nat → Type} (n : Nat) : SV T → Bool
 | .ptr id _ => Nat.blt id n
 | .ep id _ _ => Nat.blt id n
 | .sl _ id _ _ _ _ => Nat.blt id n
 | .R id => Nat.blt id n
 | .mapr id => Nat.blt id n
 | .any => true
 | .a _ => true
 | .i _ _ => true
 | .b _ => true
 | .s _ => true
 | .tl _ _ => true
 | _ => false
def ltO {T : Nat → Type} (n : Nat) : Obj T → Bool
 | .cells cs => cs.all (ltV n)
 | .mp es => es.all fun p => ltV n p.2
 | .rows _ _ _ _ => true
 | .it _ _ => true
theorem lt_er (hC : CodecOk C) {n : Nat} {τ : Ren} {x : SV C.T} {a : AVal} (hx : ltV n x = true) (h : Er E x a) : Er (E.lp n τ) x a := by
 have lt : ∀ {id : Nat},Nat.blt id n = true → id < n := fun h => by rwa [Nat.blt_eq] at h
 cases h with
 | ptr hb => exact .ptr (by show lpβ n τ E.β _ = _; rw [lp_old (lt hx)]; exact hb)
 | ep hb => exact .ep (by show lpβ n τ E.γ _ = _; rw [lp_old (lt hx)]; exact hb)
 | sl hb => exact .sl (by show lpβ n τ E.β _ = _; rw [lp_old (lt hx)]; exact hb)
 | R hb hs => exact .R (by show lpβ n τ E.γ _ = _; rw [lp_old (lt hx)]; exact hb) hs
 | mapr hb => exact .mapr (by show lpβ n τ E.β _ = _; rw [lp_old (lt hx)]; exact hb)
 | any => exact .any
 | a => exact .a _
 | i k m => exact .i k m
 | b t => exact .b t
 | s t => exact .s t
 | tlN => exact .tlN
 | tlL h1 h2 h3 h4 => exact noId_er hC (E := E) (E' := E.lp n τ) (fun _ _ h => h) (.tlL h1 h2 h3 h4) rfl
 | tlS h1 h2 h3 h4 h5 h6 => exact noId_er hC (E := E) (E' := E.lp n τ) (fun _ _ h => h) (.tlS h1 h2 h3 h4 h5 h6) rfl
 | agg _ _ => cases hx
 | tup _ _ => cases hx
 | iface _ => cases hx
 | fn _ _ _ _ => cases hx
 | fpI _ _ _ => cases hx
 | fpP _ _ _ _ => cases hx
theorem lt_obj (hC : CodecOk C) {n : Nat} {τ : Ren} {H : Heap} {id : Nat} {o : Obj C.T} (hid : id < n) (ho : ltO n o = true) (h : ObjOk E H id o) : ObjOk (E.lp n τ) H id o := by
 have hβ : (E.lp n τ).β id = E.β id := lp_old hid
 have hγ : (E.lp n τ).γ id = E.γ id := lp_old hid
 cases o with
 | cells cs =>
  obtain ⟨b,as,h1,hw,h2,h3⟩ := h
  refine ⟨b,as,by rw [hβ]; exact h1,hw,h2,h3.1,fun i x a q1 q2 => lt_er hC ?_ (h3.2 i x a q1 q2)⟩
  exact List.all_eq_true.1 ho x (List.mem_of_getElem? q1)
 | mp es =>
  obtain ⟨b,as,h1,hw,h2,h3⟩ := h
  refine ⟨b,as,by rw [hβ]; exact h1,hw,h2,h3.keys,h3.nodup,fun m x hx => ?_,h3.dom⟩
  have hl := List.all_eq_true.1 ho (m,x) hx
  rcases h3.val m x hx with ⟨v,k1,k2⟩ | ⟨k1,k2⟩
  ·exact .inl ⟨v,k1,lt_er hC hl k2⟩
  ·exact .inr ⟨k1,lt_er hC hl k2⟩
 | it s pos =>
  obtain ⟨b,h1,hw,h2⟩ := h
  exact ⟨b,by rw [hβ]; exact h1,hw,h2⟩
 | rows m l full root =>
  rcases h with ⟨h1,h2,a,h3,h4⟩ | ⟨b,off,cap,ex,as,h1,h2,hw,h3,h4,h5,h6,h7,h8⟩
  ·exact .inl ⟨h1,by rw [hβ]; exact h2,a,by rw [hγ]; exact h3,h4⟩
  ·refine .inr ⟨b,off,cap,ex,as,by rw [hγ]; exact h1,by rw [hβ]; exact h2,hw,h3,h4,h5,h6,h7,fun i y j x a q1 q2 q3 => ?_⟩
   exact noId_er hC (E := E) (E' := E.lp n τ) (fun _ _ h => h) (h8 i y j x a q1 q2 q3) (List.all_eq_true.1 (hC.ids m y) x (List.mem_of_getElem? q2))
def lpOsF (h fh : SH C) (foot : Nat → Bool) : Nat → (List (SV C.T × SV C.T) → Tree) → Tree
 | 0,K => K []
 | j + 1,K => bif foot j then (lpOsF h fh foot j fun W => lpO h fh j fun W1 => K (W1 ++ W)) else lpOsF h fh foot j K
theorem lpOsF_ok {h fh : SH C} {foot : Nat → Bool} : ∀ {n : Nat} {K : List (SV C.T × SV C.T) → Tree},(lpOsF h fh foot n K).holds → ∃ W,(K W).holds ∧ ∀ (j : Nat) (o : Obj C.T),j < n → foot j = true → fh[j]? = some (some o) → PinO h W j o
 | 0,K,hh => ⟨[],hh,fun j o hj => by omega⟩
 | n + 1,K,hh => by
  simp only [lpOsF] at hh
  cases hf : foot n with
  | true =>
   rw [hf] at hh
   obtain ⟨W,h1,h2⟩ := lpOsF_ok (n := n) hh
   obtain ⟨W1,h3,h4⟩ := lpO_ok h1
   refine ⟨W1 ++ W,h3,fun j o hj hft ho => ?_⟩
   rcases Nat.lt_or_ge j n with k | k
   ·exact (h2 j o k hft ho).mono fun p hp => List.mem_append_right _ hp
   ·have : j = n := by omega
    subst this
    exact (h4 o ho).mono fun p hp => List.mem_append_left _ hp
  | false =>
   rw [hf] at hh
   obtain ⟨W,h1,h2⟩ := lpOsF_ok (n := n) hh
   refine ⟨W,h1,fun j o hj hft ho => ?_⟩
   rcases Nat.lt_or_ge j n with k | k
   ·exact h2 j o k hft ho
   ·have : j = n := by omega
    subst this
    rw [hf] at hft
    cases hft
noncomputable def lpAllF (n : Nat) (foot : Nat → Bool) (W0 : List (SV C.T × SV C.T)) (h fh : SH C) (K : Tree) : Tree :=
 bif Nat.ble n h.length && Nat.ble n fh.length then
  lpOsF h fh foot n fun W => lpV n h fh 4000 (W0 ++ W) (List.replicate (fh.length - n) none) fun τ => bif newOk n fh τ (fh.length - n) then K else .stuck "fr: an object that nothing leads to"
 else .stuck "fr: memory"
theorem lpAllF_ok (hC : CodecOk C) {E0 : Env} {lo wlo n0 n N0 : Nat} {foot : Nat → Bool} {h0 : SH C} {H0 H : Heap} {W0 : List (SV C.T × SV C.T)} {h fh : SH C} {K : Tree} (hS0 : SimH E0 lo wlo h0 H0) (hn : h0.length = n0) (hpn : n0 ≤ n) (hle : LeN n0 N0 E0 E) (hS : SimH E lo 0 h H)
 (hfr : ∀ (j : Nat) (o : Obj C.T),j < n → foot j = false → fh[j]? = some (some o) → h[j]? = some (some o) ∧ ltO n o = true) (hh : (lpAllF n foot W0 h fh K).holds) :
 K.holds ∧ n ≤ fh.length ∧ ∃ τ,(∀ p,p ∈ W0 → GoodL E n τ p) ∧ SimH (E.lp n τ) lo 0 fh H ∧ LeN n0 N0 E0 (E.lp n τ) := by
 unfold lpAllF at hh
 cases hb : (Nat.ble n h.length && Nat.ble n fh.length) with
 | false => rw [hb] at hh; exact (stuck_no hh).elim
 | true =>
  rw [hb] at hh
  simp only [cond_true] at hh
  rw [Bool.and_eq_true,Nat.ble_eq,Nat.ble_eq] at hb
  obtain ⟨W,h1,h2⟩ := lpOsF_ok hh
  obtain ⟨τ,k1,k2,k3,k4,k5⟩ := lpV_ok hC h1 (fun j j' id h _ => by rw [List.getElem?_replicate] at h; split at h <;> cases h)
  have k3 : (bif newOk n fh τ (fh.length - n) then K else Tree.stuck "fr: an object that nothing leads to").holds := k3
  cases hnew : newOk n fh τ (fh.length - n) with
  | false => rw [hnew] at k3; exact (stuck_no k3).elim
  | true =>
   rw [hnew] at k3
   have hrow : ∀ (j id : Nat),τ[j]? = some (some id) → RowL n h fh (n + j) id := fun j id hj => (k5 j id hj).resolve_left fun h => by rw [List.getElem?_replicate] at h; split at h <;> cases h
   refine ⟨k3,hb.2,τ,fun p hp => k4 p (List.mem_append_left _ hp),lp_simO hC hS hb.1 hb.2 (by rw [k2.1]; simp) k1 (fun j o hj ho => ?_) hrow hnew,lp_len hS0 hn hpn hle⟩
   cases hf : foot j with
   | true => exact ((h2 j o hj hf ho).mono fun p hp => List.mem_append_right _ hp).obj hC hS k4 hj
   | false =>
    obtain ⟨g1,g2⟩ := hfr j o hj hf ho
    exact ⟨⟨o,g1⟩,lt_obj hC hj g2 (hS.obj j o g1)⟩
structure FrO (C : Codec) (S : Type) where
 St : Type
 cond : S → St → Prop
 res : St → SV C.T
 heap : St → SH C → SH C
structure FrD (C : Codec) where
 n : Nat
 foot : Nat → Bool
 St : Type
 I : St → Prop
 args : St → List (SV C.T)
 heap : St → SH C → SH C
 outs : List (FrO C St)
 sel : SV C.T → SH C → Nat
structure FrOk (D : FrD C) : Prop where
 len : ∀ (s : D.St) (h : SH C),h.length = D.n → (D.heap s h).length = D.n
 ahead : ∀ (s : D.St) (h : SH C) (j : Nat),h.length = D.n → j < D.n → D.foot j = false → (D.heap s h)[j]? = h[j]?
 behind : ∀ (B : FrO C D.St),B ∈ D.outs → ∀ (s : B.St) (h : SH C) (j : Nat),h.length = D.n → j < D.n → D.foot j = false → (B.heap s h)[j]? = h[j]?
def frKeep (foot : Nat → Bool) (h' h : SH C) : Nat → Tree → Tree
 | 0,K => K
 | j + 1,K => bif foot j then frKeep foot h' h j K else .need (h'.getD j none = h.getD j none) (frKeep foot h' h j K)
theorem frKeep_ok {foot : Nat → Bool} {h h' : SH C} {K : Tree} : ∀ {n : Nat},(frKeep foot h' h n K).holds → K.holds ∧ ∀ j,j < n → foot j = false → h'.getD j none = h.getD j none
 | 0,hh => ⟨hh,fun j hj => by omega⟩
 | n + 1,hh => by
  simp only [frKeep] at hh
  cases hf : foot n with
  | true =>
   rw [hf] at hh
   obtain ⟨h1,h2⟩ := frKeep_ok (n := n) hh
   refine ⟨h1,fun j hj hj2 => ?_⟩
   rcases Nat.lt_or_ge j n with k | k
   ·exact h2 j k hj2
   ·have : j = n := by omega
    subst this
    rw [hf] at hj2
    cases hj2
  | false =>
   rw [hf] at hh
   obtain ⟨e,hh⟩ := hh
   obtain ⟨h1,h2⟩ := frKeep_ok (n := n) hh
   refine ⟨h1,fun j hj hj2 => ?_⟩
   rcases Nat.lt_or_ge j n with k | k
   ·exact h2 j k hj2
   ·have : j = n := by omega
    subst this
    exact e
noncomputable def frFin (D : FrD C) (s : D.St) (h : SH C) : SV C.T → SH C → Tree := fun sv h' => match D.outs[D.sel sv h']? with
 | some B => .ex B.St fun s' => lpAllF D.n D.foot [(sv,B.res s')] h' (B.heap s' h) (frKeep D.foot h' h D.n (.need (B.cond s s') .ok))
 | none => .stuck "fr: which"
noncomputable def frK {S : Type} (s : S) (h : SH C) (K : SV C.T → SH C → Tree) : List (FrO C S) → Tree
 | [] => .ok
 | B :: l => .and (.all B.St fun s' => .imp (B.cond s s') (K (B.res s') (B.heap s' h))) (frK s h K l)
theorem frK_ok {S : Type} {s : S} {h : SH C} {K : SV C.T → SH C → Tree} : ∀ {l : List (FrO C S)},(frK s h K l).holds → ∀ B,B ∈ l → ∀ s',B.cond s s' → (K (B.res s') (B.heap s' h)).holds
 | [],_,B,hm => by simp at hm
 | A :: l,hh,B,hm => by
  obtain ⟨h1,h2⟩ := hh
  rcases List.mem_cons.1 hm with rfl | hm
  ·exact h1
  ·exact frK_ok h2 B hm
def ltOO {T : Nat → Type} (n : Nat) : Option (Obj T) → Bool
 | none => true
 | some o => ltO n o
def frAsk (n : Nat) (foot q : Nat → Bool) (h : SH C) : Nat → Tree → Tree
 | 0,K => K
 | j + 1,K => bif foot j then frAsk n foot q h j K else bif q j then .need (ltOO n (h.getD j none) = true) (frAsk n foot q h j K) else bif ltOO n (h.getD j none) then frAsk n foot q h j K else .stuck "fr: names"
def FrLow (n : Nat) (foot : Nat → Bool) (h : SH C) (m : Nat) : Prop := ∀ j,j < m → foot j = false → ltOO n (h.getD j none) = true
theorem FrLow.get {n m : Nat} {foot : Nat → Bool} {h : SH C} (hh : FrLow n foot h m) (j : Nat) (o : Obj C.T) (hj : j < m) (hf : foot j = false) (ho : h[j]? = some (some o)) : ltO n o = true := by
 have := hh j hj hf
 rw [List.getD_eq_getElem?_getD,ho] at this
 exact this
theorem frAsk_ok {n : Nat} {foot q : Nat → Bool} {h : SH C} {K : Tree} : ∀ {m : Nat},(frAsk n foot q h m K).holds → K.holds ∧ FrLow n foot h m
 | 0,hh => ⟨hh,fun j hj => by omega⟩
 | m + 1,hh => by
  have st : ∀ {X : Prop},(K.holds ∧ FrLow n foot h m) → (foot m = true ∨ ltOO n (h.getD m none) = true) → K.holds ∧ FrLow n foot h (m + 1) := fun a b => ⟨a.1,fun j hj hf => by
   rcases Nat.lt_or_ge j m with k | k
   ·exact a.2 j k hf
   ·have : j = m := by omega
    subst this
    rcases b with b | b
    ·rw [hf] at b; cases b
    ·exact b⟩
  simp only [frAsk] at hh
  cases hf : foot m with
  | true => rw [hf] at hh; exact st (X := True) (frAsk_ok hh) (.inl hf)
  | false =>
   rw [hf] at hh
   cases hq : q m with
   | true =>
    rw [hq] at hh
    obtain ⟨e,hh⟩ := hh
    exact st (X := True) (frAsk_ok hh) (.inr e)
   | false =>
    rw [hq] at hh
    simp only [cond_false] at hh
    cases hl : ltOO n (h.getD m none) with
    | false => rw [hl] at hh; exact (stuck_no hh).elim
    | true => rw [hl] at hh; exact st (X := True) (frAsk_ok hh) (.inr hl)
noncomputable def frCtrB (q : Nat → Bool) (D : FrD C) : Ctr C := fun wlo args h K =>
 bif Nat.beq wlo 0 && Nat.beq h.length D.n then frAsk D.n D.foot q h D.n (.ex D.St fun s => (bif Nat.beq args.length (D.args s).length then lpAllF D.n D.foot (args.zip (D.args s)) h (D.heap s h) (.need (D.I s) (frK s h K D.outs)) else .stuck "fr: args"))
 else .stuck "fr: names"
noncomputable def frCtr (D : FrD C) : Ctr C := frCtrB (fun _ => false) D
theorem frCtrB_ok (hC : CodecOk C) {S : AStat} {f : FuncId} (q : Nat → Bool) (D : FrD C) (hD : FrOk D) (hVC : ∀ s,D.I s → ∀ h : SH C,h.length = D.n → FrLow D.n D.foot h D.n → ∃ c,CtrOk1 S f c ∧ Paid (c 0 (D.args s) (D.heap s h) (frFin D s h))) : CtrOk1 S f (frCtrB q D) := by
 intro E lo wlo args h H K av hh hS hA
 unfold frCtrB at hh
 cases hfr : (Nat.beq wlo 0 && Nat.beq h.length D.n) with
 | false => rw [hfr] at hh; exact (stuck_no hh).elim
 | true =>
 rw [hfr] at hh
 simp only [cond_true] at hh
 rw [Bool.and_eq_true,Nat.beq_eq,Nat.beq_eq] at hfr
 obtain ⟨rfl,hpn⟩ := hfr
 obtain ⟨hh,hlow⟩ := frAsk_ok hh
 have hlt := hlow.get
 obtain ⟨s,hs⟩ := hh
 simp only at hs
 cases hl : Nat.beq args.length (D.args s).length with
 | false => rw [hl] at hs; exact (stuck_no hs).elim
 | true =>
 rw [hl] at hs
 rw [Nat.beq_eq] at hl
 simp only [cond_true] at hs
 obtain ⟨⟨hI,hK⟩,hp1,τ,g1,g2,g3⟩ := lpAllF_ok hC hS rfl (by omega) (LeN.refl h.length E (N := H.length)) hS (fun j o hj hf ho => by
  rw [hD.ahead s h j hpn hj hf] at ho
  exact ⟨ho,hlt j o hj hf ho⟩) hs
 have hA1 := goodL_zip hl g1 hA
 obtain ⟨c,hc,hpay⟩ := hVC s hI h hpn hlow
 obtain ⟨v,H',sv,h',E2,r1,r2,r3,r4,r5,r6,r7⟩ := hc (E.lp D.n τ) lo 0 (D.args s) (D.heap s h) H (frFin D s h) av hpay.out g2 hA1
 unfold frFin at r7
 split at r7
 ·rename_i B hB
  obtain ⟨s',r7⟩ := r7
  have r7 : (lpAllF D.n D.foot [(sv,B.res s')] h' (B.heap s' h) (frKeep D.foot h' h D.n (.need (B.cond s s') .ok))).holds := r7
  have hlen := hD.len s h hpn
  have hB := List.mem_of_getElem? hB
  rw [hlen] at r2
  have r2' : LeN h.length H.length (E.lp D.n τ) E2 := by rw [hpn]; exact r2
  -- what is kept is told behind the tree
  have hkeep : (lpAllF D.n D.foot [(sv,B.res s')] h' (B.heap s' h) (frKeep D.foot h' h D.n (.need (B.cond s s') .ok))).holds → (frKeep D.foot h' h D.n (.need (B.cond s s') .ok)).holds := by
   intro hh
   unfold lpAllF at hh
   cases hb : (Nat.ble D.n h'.length && Nat.ble D.n (B.heap s' h).length) with
   | false => rw [hb] at hh; exact (stuck_no hh).elim
   | true =>
    rw [hb] at hh
    obtain ⟨W,h1,_⟩ := lpOsF_ok hh
    obtain ⟨τ',_,_,k3,_⟩ := lpV_ok (E := E) hC h1 (fun j j' id h _ => by rw [List.getElem?_replicate] at h; split at h <;> cases h)
    have k3 : (bif newOk D.n (B.heap s' h) τ' ((B.heap s' h).length - D.n) then frKeep D.foot h' h D.n (.need (B.cond s s') .ok) else Tree.stuck "fr: an object that nothing leads to").holds := k3
    cases hnew : newOk D.n (B.heap s' h) τ' ((B.heap s' h).length - D.n) with
    | false => rw [hnew] at k3; exact (stuck_no k3).elim
    | true => rw [hnew] at k3; exact k3
  have hk := (frKeep_ok (hkeep r7)).2
  obtain ⟨hkc,hp2,τ2,q1,q2,q3⟩ := lpAllF_ok hC hS rfl (by omega) (g3.trans (Nat.le_refl _) (Nat.le_refl _) r2') r4 (fun j o hj hf ho => by
   rw [hD.behind B hB s' h j hpn hj hf] at ho
   have e := hk j hj hf
   rw [List.getD_eq_getElem?_getD,List.getD_eq_getElem?_getD,ho] at e
   have e : h'[j]? = some (some o) := by
    cases hx : h'[j]? with
    | none => rw [hx] at e; cases e
    | some x => rw [hx] at e; exact congrArg some e
   exact ⟨e,hlt j o hj hf ho⟩) r7
  have hc' := (frKeep_ok hkc).1.1
  exact ⟨v,H',B.res s',B.heap s' h,E2.lp D.n τ2,r1,q3,by omega,q2,r5,q1 (sv,B.res s') List.mem_cons_self v r6,frK_ok hK B hB s' hc'⟩
 ·exact (stuck_no r7).elim
end Go.Sy

/- Contracts at more names than there are; contracts of functions whose cuts are chosen. Generic: over any program. -/
namespace Go.Sy
open Go.Am
set_option linter.unusedVariables false
set_option linter.unusedSimpArgs false
variable {C : Codec} {E : Env}
theorem pad_get {h : SH C} {k i : Nat} {o : Obj C.T} (hi : (h ++ List.replicate k none)[i]? = some (some o)) : h[i]? = some (some o) := by
 rcases Nat.lt_or_ge i h.length with hl | hl
 ·rwa [List.getElem?_append_left hl] at hi
 ·rw [List.getElem?_append_right hl,List.getElem?_replicate] at hi
  split at hi <;> cases hi
theorem SimH.pad {lo wlo : Nat} {h : SH C} {H : Heap} (hS : SimH E lo wlo h H) (k : Nat) : SimH E lo wlo (h ++ List.replicate k none) H :=
 ⟨fun id o hi => hS.obj id o (pad_get hi),fun id id' o o' b h1 h2 => hS.inj id id' o o' b (pad_get h1) (pad_get h2),fun b cs hf => ⟨(hS.fr b cs hf).1,fun id o hi => (hS.fr b cs hf).2 id o (pad_get hi)⟩,
  fun id hi => hS.fresh id (by rw [List.length_append] at hi; omega),hS.low,hS.bnd,hS.own,hS.βω,by rw [List.length_append]; have := hS.wl; omega,hS.ll⟩
def padCtr (N : Nat) (c : Ctr C) : Ctr C := fun wlo args h K => c wlo args (h ++ List.replicate (N - h.length) none) K
theorem padCtr_ok {S : AStat} {f : FuncId} {c : Ctr C} (N : Nat) (hc : CtrOk1 S f c) : CtrOk1 S f (padCtr N c) := by
 intro E lo wlo args h H K av hh hS hA
 obtain ⟨v,H',sv,h',E',r1,r2,r3,r4,r5,r6,r7⟩ := hc E lo wlo args _ H K av hh (hS.pad _) hA
 rw [List.length_append] at r2 r3
 exact ⟨v,H',sv,h',E',r1,⟨r2.le,fun id hi => r2.old id (by omega),r2.fr,r2.own⟩,by omega,r4,r5,r6,r7⟩
def litCtr (v : AVal) (c : Ctr C) : Ctr C := fun wlo args h K => c wlo args h fun x h' => match litV x with
 | some v' => .need (v' = v) (K (.a v) h')
 | none => .stuck "lit"
theorem litCtr_ok {S : AStat} {f : FuncId} {c : Ctr C} (v : AVal) (hc : CtrOk1 S f c) : CtrOk1 S f (litCtr v c) := by
 intro E lo wlo args h H K av hh hS hA
 obtain ⟨w,H',sv,h',E',r1,r2,r3,r4,r5,r6,r7⟩ := hc E lo wlo args _ H _ av hh hS hA
 simp only at r7
 split at r7
 ·rename_i v' hv
  obtain ⟨rfl,r7⟩ := r7
  have := litV_ok r6 hv
  subst this
  exact ⟨_,H',_,h',E',r1,r2,r3,r4,r5,.a _,r7⟩
 ·exact (stuck_no r7).elim
def lenCtr (lo hi : Nat) (c : Ctr C) : Ctr C := fun wlo args h K => bif Nat.ble lo h.length && Nat.ble h.length hi then c wlo args h K else .stuck "no"
theorem lenCtr_ok {S : AStat} {f : FuncId} {c : Ctr C} (lo hi : Nat) (hc : CtrOk1 S f c) : CtrOk1 S f (lenCtr lo hi c) := by
 intro E l wlo args h H K av hh hS hA
 unfold lenCtr at hh
 cases hb : (Nat.ble lo h.length && Nat.ble h.length hi) with
 | false => rw [hb] at hh; exact (stuck_no hh).elim
 | true => rw [hb] at hh; exact hc E l wlo args h H K av hh hS hA
def noCtr : Ctr C := fun _ _ _ _ => .stuck "no"
theorem noCtr_ok {S : AStat} {f : FuncId} : CtrOk1 (C := C) S f noCtr := fun _ _ _ _ _ _ _ _ hh => (stuck_no hh).elim
theorem mkCtrS_paid {F : Cf C} (hC : CodecOk C) (hX : ExtNo F.S F.noExt) (hL : HookLow F.S) {ctr : FuncId → Option (Ctr C)} (hctr : CtrOk F.S ctr) {f : FuncId} {fn : Func} {body : Code} (hf : F.S.P.funcs[f]? = some fn) (hb : fn.body = some body) (hk : F.S.hook f = none) (hp : F.S.pol f = .fresh)
 (D : CtrD C) (N : Nat) (cuts : tys D.pats → List (Nat × CutD C)) (sel : Nat → SR C → SH C → Option Nat) (hn : D.pats.length ≤ fn.ntmps) (hs : fn.ntmps ≤ 512) (hnd : nodupB ((allK body []).map (·.1)) = true)
 (hpure : ∀ x,D.pre x → pureS (D.res x) = true ∧ (D.objs x).all pureO = true)
 (hentry : ∀ x,D.pre x → Paid (entryS F ctr N fn body ⟨cuts x,D.res x,D.objs x⟩ sel (argsS D.pats x)))
 (hcuts : ∀ x,D.pre x → ∀ p,p ∈ cuts x → ∀ s,p.2.I s → Paid (cutS F ctr N fn body ⟨cuts x,D.res x,D.objs x⟩ sel p.1 p.2 s)) : CtrOk1 F.S f (mkCtr D) := by
 intro E lo wlo args h H K av hh hS hA
 obtain ⟨x,⟨hpre,hK⟩,hAx⟩ := takeAll_ok hC hS hA hh
 have hal : ∀ (ps : List (Pat C)) (y : tys ps),(argsS ps y).length = ps.length := by
  intro ps
  induction ps with
  | nil => intro y; rfl
  | cons p ps ih => intro y; simp only [argsS,List.length_cons,ih]
 have hS0 : SimH (away H) ((F.S.pol f).lo lo H) 0 ([] : SH C) H := away_sim (by rw [hp]; simp only [Pol.lo]; have := hS.ll; omega)
 obtain ⟨n,v,H',E',h1,h2,h4⟩ := fn_runsS hC hX hL hctr hf hb hk ⟨cuts x,D.res x,D.objs x⟩ sel N (by rw [hal]; exact hn) hs hnd (hentry x hpre).out (fun p hm s hI => (hcuts x hpre p hm s hI).out) hS0 hAx
 have h1 : callA F.S (execA F.S n) lo f av H = some (v,H') := by rw [h1,hp]; rfl
 have hfr := callA_fresh (execA_low hL n) (by rw [hk]; rfl) hp h1
 rw [hp] at h2
 obtain ⟨E2,k1,k2,k3⟩ := shift_sim hC hS h2 (hpure x hpre).2 hfr.1 hfr.2
 exact ⟨v,H',_,_,E2,⟨n,h1⟩,k1,by simp,k2,hfr.1,k3 (hpure x hpre).1 h4,hK⟩
end Go.Sy

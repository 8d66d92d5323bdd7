/- Library, part 5: SyLoop, SySum, SyFr, SyPad. General texts of the author of this claim: an idealised machine and a symbolic one, both proved sound over the model. -/
import Derived.Test.YtcholkmididfmaaGreatDoorLib4
set_option linter.unusedVariables false
set_option linter.unusedSimpArgs false
/- Loops of functions that turn what they are handed: a call is gone through with cuts of its own, all objects keeping their names. Generic: over any program. -/
namespace Go.Sy
open Go.Am
set_option linter.unusedVariables false
set_option linter.unusedSimpArgs false
variable {C : Codec} {E : Env}
structure LpD (C : Codec) where
 pn : Nat
 St : Type
 I : St → Prop
 m : St → Nat
 regs : St → List (Nat × SV C.T)
 heap : St → SH C
def lpβ {α : Type} (n0 : Nat) (τ : Ren) (f : Nat → Option α) (i : Nat) : Option α := if i < n0 then f i else ((τ[i - n0]?).join).bind f
def Env.lp (E : Env) (n0 : Nat) (τ : Ren) : Env where
 β := lpβ n0 τ E.β
 γ := lpβ n0 τ E.γ
 ω := E.ω
 Fr := E.Fr
theorem lp_old {n0 : Nat} {τ : Ren} {α : Type} {f : Nat → Option α} {i : Nat} (h : i < n0) : lpβ n0 τ f i = f i := by unfold lpβ; rw [if_pos h]
theorem lp_new {n0 : Nat} {τ : Ren} {α : Type} {f : Nat → Option α} {i id : Nat} (h : n0 ≤ i) (hτ : τ[i - n0]? = some (some id)) : lpβ n0 τ f i = f id := by
 unfold lpβ
 rw [if_neg (by omega),hτ]
 rfl
def rowsO (n0 : Nat) (h fh : SH C) (id j : Nat) (K : Tree) : Tree :=
 match hget h id,hget fh j with
 | some (.rows n l full root),some (.rows m l0 full0 root0) => if e : n = m then bif Nat.beq root0 root && (!full0 || full) && (Nat.ble n0 id || (hget fh id).isNone) then .need (castL e l = l0) K else .stuck "lp: rows: room" else .stuck "lp: rows of another kind"
 | _,_ => .stuck "lp: rows"
def lpV (n0 : Nat) (h fh : SH C) : Nat → List (SV C.T × SV C.T) → Ren → (Ren → Tree) → Tree
 | 0,_,_,_ => .stuck "lp: fuel"
 | n + 1,[],τ,K => K τ
 | n + 1,(x,v0) :: W,τ,K =>
  match v0 with
  | .any => lpV n0 h fh n W τ K
  | .a v => match litV x with
   | some v' => .need (v' = v) (lpV n0 h fh n W τ K)
   | none => match v with
    | .int k m => match intOf x with
     | some (k',m') => if k' = k then .need (m' = m) (lpV n0 h fh n W τ K) else .stuck "lp: a"
     | none => .stuck "lp: a"
    | _ => .stuck "lp: a"
  | .i k m => match intOf x with
   | some (k',m') => if k' = k then .need (m' = m) (lpV n0 h fh n W τ K) else .stuck "lp: kind"
   | none => .stuck "lp: i"
  | .b t => match boolOf x with
   | some t' => .need (t' = t) (lpV n0 h fh n W τ K)
   | none => .stuck "lp: b"
  | .s t => match strOf x with
   | some t' => .need (t' = t) (lpV n0 h fh n W τ K)
   | none => .stuck "lp: s"
  | .agg cs0 => match x with
   | .agg cs => bif Nat.beq cs.length cs0.length then lpV n0 h fh n (cs.zip cs0 ++ W) τ K else .stuck "lp: agg"
   | .a (.agg as) => bif Nat.beq as.length cs0.length then lpV n0 h fh n ((as.map .a).zip cs0 ++ W) τ K else .stuck "lp: agg"
   | _ => .stuck "lp: agg"
  | .tl m l => match x with
   | .tl m' l' => if e : m' = m then .need (castL e l' = l) (lpV n0 h fh n W τ K) else .stuck "lp: tl"
   | .a .nils => .need ([] = l) (lpV n0 h fh n W τ K)
   | _ => .stuck "lp: tl"
  | .ptr j off => match x with
   | .ptr id off' => bif Nat.beq off' off && Nat.beq id j && Nat.blt j n0 then lpV n0 h fh n W τ K else .stuck "lp: ptr"
   | _ => .stuck "lp: ptr"
  | .mapr j => match x with
   | .mapr id => bif Nat.beq id j && Nat.blt j n0 then lpV n0 h fh n W τ K else .stuck "lp: mapr"
   | _ => .stuck "lp: mapr"
  | .sl sz j off len cap ex => match x with
   | .sl sz' id off' len' cap' ex' => bif Nat.beq id j && Nat.blt j n0 then (if sz' = sz ∧ off' = off ∧ len' = len ∧ cap' = cap ∧ ex' = ex then lpV n0 h fh n W τ K else .stuck "lp: sl") else .stuck "lp: sl"
   | _ => .stuck "lp: sl"
  | .R j => match x with
   | .R id => bif Nat.blt j n0 then (bif Nat.beq id j then lpV n0 h fh n W τ K else .stuck "lp: R") else
    match τ[j - n0]? with
    | some (some id') => bif Nat.beq id' id then lpV n0 h fh n W τ K else .stuck "lp: two objects for one"
    | some none => bif τ.contains (some id) then .stuck "lp: one object for two" else rowsO n0 h fh id j (lpV n0 h fh n W (τ.set (j - n0) (some id)) K)
    | none => .stuck "lp: no such object"
   | _ => .stuck "lp: R"
  | _ => .stuck "lp: value"
def lpO (h fh : SH C) (j : Nat) (K : List (SV C.T × SV C.T) → Tree) : Tree :=
 match hget fh j with
 | none => K []
 | some (.cells cs0) => match hget h j with
  | some (.cells cs) => bif Nat.beq cs.length cs0.length then K (cs.zip cs0) else .stuck "lp: cells of another number"
  | _ => .stuck "lp: an object of another kind"
 | some (.mp es0) => match hget h j with
  | some (.mp es) => bif mpKeys es es0 then K (mpZip es es0) else .stuck "lp: a map of other numbers"
  | _ => .stuck "lp: an object of another kind"
 | some (.rows m l0 full0 root0) => match hget h j with
  | some (.rows n l full root) => if e : n = m then bif Nat.beq root0 root && (!full0 || full) then .need (castL e l = l0) (K []) else .stuck "lp: rows: room" else .stuck "lp: rows of another kind"
  | _ => .stuck "lp: an object of another kind"
 | some (.it _ _) => .stuck "lp: what goes through a string"
def lpOs (h fh : SH C) : Nat → (List (SV C.T × SV C.T) → Tree) → Tree
 | 0,K => K []
 | j + 1,K => lpOs h fh j fun W => lpO h fh j fun W1 => K (W1 ++ W)
def newOk (n0 : Nat) (fh : SH C) (τ : Ren) : Nat → Bool
 | 0 => true
 | i + 1 => newOk n0 fh τ i && (match hget fh (n0 + i) with
  | none => true
  | some (.rows _ _ _ _) => ((τ[i]?).join).isSome
  | some _ => false)
noncomputable def lpAll (n0 : Nat) (r : SR C) (h : SH C) (regs : List (Nat × SV C.T)) (fh : SH C) (K : Tree) : Tree :=
 bif Nat.ble n0 h.length && Nat.ble n0 fh.length then
  lpOs h fh n0 fun W => lpV n0 h fh 4000 (regs.map (fun q => (r.get q.1,q.2)) ++ W) (List.replicate (fh.length - n0) none) fun τ => bif newOk n0 fh τ (fh.length - n0) then K else .stuck "lp: an object that nothing leads to"
 else .stuck "lp: memory"
def GoodL (E : Env) (n0 : Nat) (τ : Ren) (p : SV C.T × SV C.T) : Prop := ∀ a,Er E p.1 a → Er (E.lp n0 τ) p.2 a
def RowL (n0 : Nat) (h fh : SH C) (j id : Nat) : Prop := ∃ n l full full0 root,h[id]? = some (some (.rows n l full root)) ∧ fh[j]? = some (some (.rows n l full0 root)) ∧ (full0 = true → full = true) ∧ (n0 ≤ id ∨ hget fh id = none)
theorem goodL_zip {n0 : Nat} {τ : Ren} {cs cs0 : List (SV C.T)} (hl : cs.length = cs0.length) (h : ∀ p,p ∈ cs.zip cs0 → GoodL E n0 τ p) {as : List AVal} (hE : Ers E cs as) : Ers (E.lp n0 τ) cs0 as := by
 refine ⟨by rw [← hl]; exact hE.1,fun i x0 a h1 h2 => ?_⟩
 have hi : i < cs.length := by rw [hl]; exact lt_of_some h1
 have hx : cs[i]? = some cs[i] := qt hi
 have hz : (cs.zip cs0)[i]? = some (cs[i],x0) := by rw [List.getElem?_zip_eq_some]; exact ⟨hx,h1⟩
 exact h _ (qp hz) a (hE.2 i _ a hx h2)
theorem hget_none_of {h : SH C} {i : Nat} (hh : hget h i = none) (o : Obj C.T) : h[i]? ≠ some (some o) := by
 intro e
 unfold hget at hh
 rw [e] at hh
 cases hh
def LpOut (E : Env) (n0 : Nat) (h fh : SH C) (W : List (SV C.T × SV C.T)) (τ : Ren) (K : Ren → Tree) : Prop :=
 ∃ τ',RenOk τ' ∧ RenLe τ τ' ∧ (K τ').holds ∧ (∀ p,p ∈ W → GoodL E n0 τ' p) ∧ (∀ (j id : Nat),τ'[j]? = some (some id) → τ[j]? = some (some id) ∨ RowL n0 h fh (n0 + j) id)
theorem LpOut.cons {n0 : Nat} {h fh : SH C} {W : List (SV C.T × SV C.T)} {p : SV C.T × SV C.T} {τ : Ren} {K : Ren → Tree} (h1 : LpOut E n0 h fh W τ K) (hg : ∀ τ',RenLe τ τ' → (∀ q,q ∈ W → GoodL E n0 τ' q) → GoodL E n0 τ' p) : LpOut E n0 h fh (p :: W) τ K := by
 obtain ⟨τ',k1,k2,k3,k4,k5⟩ := h1
 refine ⟨τ',k1,k2,k3,fun q hq => ?_,k5⟩
 rcases List.mem_cons.1 hq with rfl | hq
 ·exact hg τ' k2 k4
 ·exact k4 q hq
theorem LpOut.sub {n0 : Nat} {h fh : SH C} {W1 W : List (SV C.T × SV C.T)} {p : SV C.T × SV C.T} {τ : Ren} {K : Ren → Tree} (h1 : LpOut E n0 h fh (W1 ++ W) τ K) (hg : ∀ τ',(∀ q,q ∈ W1 → GoodL E n0 τ' q) → GoodL E n0 τ' p) : LpOut E n0 h fh (p :: W) τ K := by
 obtain ⟨τ',k1,k2,k3,k4,k5⟩ := h1
 refine ⟨τ',k1,k2,k3,fun q hq => ?_,k5⟩
 rcases List.mem_cons.1 hq with rfl | hq
 ·exact hg τ' fun q hq => k4 q (List.mem_append_left _ hq)
 ·exact k4 q (List.mem_append_right _ hq)
theorem lpV_ok (hC : CodecOk C) {n0 : Nat} {h fh : SH C} {K : Ren → Tree} : ∀ {n : Nat} {W : List (SV C.T × SV C.T)} {τ : Ren},(lpV n0 h fh n W τ K).holds → RenOk τ → LpOut E n0 h fh W τ K
 | 0,W,τ,hh,hτ => (stuck_no hh).elim
 | n + 1,[],τ,hh,hτ => ⟨τ,hτ,RenLe.refl _,hh,fun p hp => by simp at hp,fun j id h => .inl h⟩
 | n + 1,(x,v0) :: W,τ,hh,hτ => by
  simp only [lpV] at hh
  have ih := fun {W : List (SV C.T × SV C.T)} {τ : Ren} (h1 : (lpV n0 h fh n W τ K).holds) (h3 : RenOk τ) => lpV_ok hC (n := n) h1 h3
  split at hh
  ·exact (ih hh hτ).cons fun τ' _ _ a _ => .any
  ·rename_i v
   split at hh
   ·rename_i v' hl
    obtain ⟨rfl,hk⟩ := hh
    refine (ih hk hτ).cons fun τ' _ _ a ha => ?_
    rw [litV_ok ha hl]
    exact .a _
   ·split at hh
    ·rename_i k m
     split at hh
     ·rename_i k' m' hi
      split at hh
      ·rename_i hk
       subst hk
       obtain ⟨rfl,hk⟩ := hh
       refine (ih hk hτ).cons fun τ' _ _ a ha => ?_
       rw [intOf_ok ha hi]
       exact .a _
      ·exact qa1 hh
     ·exact qa1 hh
    ·exact qa1 hh
  ·rename_i k m
   split at hh
   ·rename_i k' m' hi
    split at hh
    ·rename_i hk
     subst hk
     obtain ⟨rfl,hk⟩ := hh
     refine (ih hk hτ).cons fun τ' _ _ a ha => ?_
     rw [intOf_ok ha hi]
     exact .i _ _
    ·exact qa1 hh
   ·exact qa1 hh
  ·split at hh
   ·rename_i t' hi
    obtain ⟨rfl,hk⟩ := hh
    refine (ih hk hτ).cons fun τ' _ _ a ha => ?_
    rw [boolOf_ok ha hi]
    exact .b _
   ·exact qa1 hh
  ·split at hh
   ·rename_i t' hi
    obtain ⟨rfl,hk⟩ := hh
    refine (ih hk hτ).cons fun τ' _ _ a ha => ?_
    rw [strOf_ok ha hi]
    exact .s _
   ·exact qa1 hh
  ·rename_i cs0
   split at hh
   ·rename_i cs
    cases hb : Nat.beq cs.length cs0.length with
    | false => rw [hb] at hh; exact qa1 hh
    | true =>
     rw [hb] at hh
     rw [Nat.beq_eq] at hb
     refine (ih hh hτ).sub fun τ' hg a ha => ?_
     cases ha with
     | agg hl hr =>
      have := goodL_zip hb hg ⟨hl,hr⟩
      exact .agg this.1 this.2
   ·rename_i as
    cases hb : Nat.beq as.length cs0.length with
    | false => rw [hb] at hh; exact qa1 hh
    | true =>
     rw [hb] at hh
     rw [Nat.beq_eq] at hb
     refine (ih hh hτ).sub fun τ' hg a ha => ?_
     cases ha
     have := goodL_zip (by simpa using hb) hg (Ers.mapA as)
     exact .agg this.1 this.2
   ·exact qa1 hh
  ·rename_i m l
   split at hh
   ·rename_i m' l'
    split at hh
    ·rename_i em
     subst em
     obtain ⟨he,hk⟩ := hh
     have he : l' = l := he
     subst he
     refine (ih hk hτ).cons fun τ' _ _ a ha => ?_
     exact noId_er hC (E := E) (E' := E.lp n0 τ') (fun _ _ h => h) ha rfl
    ·exact qa1 hh
   ·obtain ⟨rfl,hk⟩ := hh
    refine (ih hk hτ).cons fun τ' _ _ a ha => ?_
    cases ha
    exact .tlN
   ·exact qa1 hh
  ·rename_i j off
   split at hh
   ·rename_i id off'
    cases hb : (Nat.beq off' off && Nat.beq id j && Nat.blt j n0) with
    | false => rw [hb] at hh; exact qa1 hh
    | true =>
     rw [hb] at hh
     simp only [qj,Nat.beq_eq,Nat.blt_eq] at hb
     obtain ⟨⟨rfl,rfl⟩,hj⟩ := hb
     refine (ih hh hτ).cons fun τ' _ _ a ha => ?_
     cases ha with
     | ptr hβ => exact .ptr (by show lpβ n0 τ' E.β id = _; rw [lp_old hj]; exact hβ)
   ·exact qa1 hh
  ·rename_i j
   split at hh
   ·rename_i id
    cases hb : (Nat.beq id j && Nat.blt j n0) with
    | false => rw [hb] at hh; exact qa1 hh
    | true =>
     rw [hb] at hh
     simp only [qj,Nat.beq_eq,Nat.blt_eq] at hb
     obtain ⟨rfl,hj⟩ := hb
     refine (ih hh hτ).cons fun τ' _ _ a ha => ?_
     cases ha with
     | mapr hβ => exact .mapr (by show lpβ n0 τ' E.β id = _; rw [lp_old hj]; exact hβ)
   ·exact qa1 hh
  ·rename_i sz j off len cap ex
   split at hh
   ·rename_i sz' id off' len' cap' ex'
    cases hb : (Nat.beq id j && Nat.blt j n0) with
    | false => rw [hb] at hh; exact qa1 hh
    | true =>
     rw [hb] at hh
     simp only [qj,Nat.beq_eq,Nat.blt_eq] at hb
     obtain ⟨rfl,hj⟩ := hb
     simp only [cond_true] at hh
     split at hh
     ·rename_i hq
      obtain ⟨rfl,rfl,rfl,rfl,rfl⟩ := hq
      refine (ih hh hτ).cons fun τ' _ _ a ha => ?_
      cases ha with
      | sl hβ => exact .sl (by show lpβ n0 τ' E.β id = _; rw [lp_old hj]; exact hβ)
     ·exact qa1 hh
   ·exact qa1 hh
  ·rename_i j
   split at hh
   ·rename_i id
    cases hjn : Nat.blt j n0 with
    | true =>
     rw [hjn] at hh
     simp only [cond_true] at hh
     rw [Nat.blt_eq] at hjn
     cases hb : Nat.beq id j with
     | false => rw [hb] at hh; exact qa1 hh
     | true =>
      rw [hb] at hh
      rw [Nat.beq_eq] at hb
      subst hb
      refine (ih hh hτ).cons fun τ' _ _ a ha => ?_
      cases ha with
      | R hγ hs => exact .R (by show lpβ n0 τ' E.γ id = _; rw [lp_old hjn]; exact hγ) hs
    | false =>
     rw [hjn] at hh
     simp only [cond_false] at hh
     have hjn : n0 ≤ j := by
      rcases qm j n0 with k | k
      ·rw [← Nat.blt_eq,hjn] at k; cases k
      ·exact k
     split at hh
     ·rename_i id' e
      cases hb : Nat.beq id' id with
      | false => rw [hb] at hh; exact qa1 hh
      | true =>
       rw [hb] at hh
       rw [Nat.beq_eq] at hb
       subst hb
       refine (ih hh hτ).cons fun τ' hle _ a ha => ?_
       cases ha with
       | R hγ hs => exact .R (by show lpβ n0 τ' E.γ j = _; rw [lp_new hjn (hle.2 _ _ e)]; exact hγ) hs
     ·rename_i e
      cases hc : τ.contains (some id) with
      | true => rw [hc] at hh; exact qa1 hh
      | false =>
       rw [hc] at hh
       simp only [cond_false] at hh
       have hj : j - n0 < τ.length := lt_of_some e
       have hfree : ∀ j' : Nat,τ[j']? ≠ some (some id) := by
        intro j' e'
        have : some id ∈ τ := qp e'
        have h2 : τ.contains (some id) = true := by simpa using this
        rw [hc] at h2
        cases h2
       have get : ∀ j' : Nat,(τ.set (j - n0) (some id))[j']? = if j - n0 = j' then some (some id) else τ[j']? := by
        intro j'
        rw [qh]
        by_cases e2 : j - n0 = j'
        ·subst e2
         rw [if_pos rfl,if_pos rfl,if_pos hj]
        ·rw [if_neg e2,if_neg e2]
       have hok : RenOk (τ.set (j - n0) (some id)) := by
        intro a b i ha hb
        rw [get] at ha hb
        split at ha <;> split at hb
        ·omega
        ·cases ha; exact (hfree _ hb).elim
        ·cases hb; exact (hfree _ ha).elim
        ·exact hτ a b i ha hb
       have hle1 : RenLe τ (τ.set (j - n0) (some id)) := by
        refine ⟨by simp,fun j' id' h => ?_⟩
        rw [get]
        split
        ·rename_i e2; subst e2; rw [e] at h; cases h
        ·exact h
       unfold rowsO at hh
       split at hh
       ·rename_i n' l full root m' l0 full0 root0 h1 h2
        split at hh
        ·rename_i em
         subst em
         cases hl : (Nat.beq root0 root && (!full0 || full) && (Nat.ble n0 id || (hget fh id).isNone)) with
         | false => rw [hl] at hh; exact qa1 hh
         | true =>
          rw [hl] at hh
          simp only [cond_true] at hh
          obtain ⟨he,hk⟩ := hh
          have he : l = l0 := he
          subst he
          rw [qj,qj,Nat.beq_eq] at hl
          obtain ⟨⟨rfl,hfull⟩,hid⟩ := hl
          obtain ⟨τ',k1,k2,k3,k4,k5⟩ := ih hk hok
          have hj1 : τ'[j - n0]? = some (some id) := k2.2 _ _ (by rw [get,if_pos rfl])
          refine ⟨τ',k1,hle1.trans k2,k3,fun q hq => ?_,fun j' id' h5 => ?_⟩
          ·rcases List.mem_cons.1 hq with rfl | hq
           ·intro a ha
            cases ha with
            | R hγ hs => exact .R (by show lpβ n0 τ' E.γ j = _; rw [lp_new hjn hj1]; exact hγ) hs
           ·exact k4 q hq
          ·rcases k5 j' id' h5 with h6 | h6
           ·rw [get] at h6
            split at h6
            ·rename_i e2
             cases h6
             subst e2
             refine .inr ⟨n',l,full,full0,root0,hget_some h1, ?_,fun hf => ?_, ?_⟩
             ·rw [show n0 + (j - n0) = j by omega]; exact hget_some h2
             ·rw [hf] at hfull; simpa using hfull
             ·rw [Bool.or_eq_true,Nat.ble_eq] at hid
              exact hid.imp (fun h => h) (fun h => by simpa using h)
            ·exact .inl h6
           ·exact .inr h6
        ·exact qa1 hh
       ·exact qa1 hh
     ·exact qa1 hh
   ·exact qa1 hh
  ·exact qa1 hh
def PinO (h : SH C) (W : List (SV C.T × SV C.T)) (j : Nat) : Obj C.T → Prop
 | .cells cs0 => ∃ cs,h[j]? = some (some (.cells cs)) ∧ cs.length = cs0.length ∧ ∀ p,p ∈ cs.zip cs0 → p ∈ W
 | .mp es0 => ∃ es,h[j]? = some (some (.mp es)) ∧ mpKeys es es0 = true ∧ ∀ p,p ∈ mpZip es es0 → p ∈ W
 | .rows n l full0 root => ∃ full,h[j]? = some (some (.rows n l full root)) ∧ (full0 = true → full = true)
 | .it _ _ => False
theorem PinO.mono {h : SH C} {W W' : List (SV C.T × SV C.T)} {j : Nat} (hW : ∀ p,p ∈ W → p ∈ W') : ∀ {o : Obj C.T},PinO h W j o → PinO h W' j o
 | .cells cs0,⟨cs,h1,h2,h3⟩ => ⟨cs,h1,h2,fun p hp => hW p (h3 p hp)⟩
 | .mp es0,⟨es,h1,h2,h3⟩ => ⟨es,h1,h2,fun p hp => hW p (h3 p hp)⟩
 | .rows _ _ _ _,h => h
theorem lpO_ok {h fh : SH C} {j : Nat} {K : List (SV C.T × SV C.T) → Tree} (hh : (lpO h fh j K).holds) : ∃ W,(K W).holds ∧ ∀ o,fh[j]? = some (some o) → PinO h W j o := by
 unfold lpO at hh
 split at hh
 ·rename_i e
  exact ⟨[],hh,fun o ho => (hget_none_of e o ho).elim⟩
 ·rename_i cs0 e
  split at hh
  ·rename_i cs e2
   cases hb : Nat.beq cs.length cs0.length with
   | false => rw [hb] at hh; exact qa1 hh
   | true =>
    rw [hb] at hh
    rw [Nat.beq_eq] at hb
    refine ⟨_,hh,fun o ho => ?_⟩
    rw [hget_some e] at ho
    cases ho
    exact ⟨cs,hget_some e2,hb,fun p hp => hp⟩
  ·exact qa1 hh
 ·rename_i es0 e
  split at hh
  ·rename_i es e2
   cases hb : mpKeys es es0 with
   | false => rw [hb] at hh; exact qa1 hh
   | true =>
    rw [hb] at hh
    refine ⟨_,hh,fun o ho => ?_⟩
    rw [hget_some e] at ho
    cases ho
    exact ⟨es,hget_some e2,hb,fun p hp => hp⟩
  ·exact qa1 hh
 ·rename_i m l0 full0 root0 e
  split at hh
  ·rename_i n l full root e2
   split at hh
   ·rename_i em
    subst em
    cases hb : (Nat.beq root0 root && (!full0 || full)) with
    | false => rw [hb] at hh; exact qa1 hh
    | true =>
     rw [hb] at hh
     obtain ⟨he,hk⟩ := hh
     have he : l = l0 := he
     subst he
     rw [qj,Nat.beq_eq] at hb
     obtain ⟨rfl,hfull⟩ := hb
     refine ⟨_,hk,fun o ho => ?_⟩
     rw [hget_some e] at ho
     cases ho
     exact ⟨full,hget_some e2,fun hf => by rw [hf] at hfull; simpa using hfull⟩
   ·exact qa1 hh
  ·exact qa1 hh
 ·exact qa1 hh
theorem lpOs_ok {h fh : SH C} : ∀ {n : Nat} {K : List (SV C.T × SV C.T) → Tree},(lpOs h fh n K).holds → ∃ W,(K W).holds ∧ ∀ (j : Nat) (o : Obj C.T),j < n → fh[j]? = some (some o) → PinO h W j o
 | 0,K,hh => ⟨[],hh,fun j o hj => by omega⟩
 | n + 1,K,hh => by
  obtain ⟨W,h1,h2⟩ := lpOs_ok (n := n) hh
  obtain ⟨W1,h3,h4⟩ := lpO_ok h1
  refine ⟨W1 ++ W,h3,fun j o hj ho => ?_⟩
  rcases qm j n with k | k
  ·exact (h2 j o k ho).mono fun p hp => List.mem_append_right _ hp
  ·have : j = n := by omega
   subst this
   exact (h4 o ho).mono fun p hp => List.mem_append_left _ hp
theorem newOk_ok {n0 : Nat} {fh : SH C} {τ : Ren} : ∀ {n : Nat},newOk n0 fh τ n = true → ∀ (i : Nat) (o : Obj C.T),i < n → fh[n0 + i]? = some (some o) → (∃ m l full root,o = .rows m l full root) ∧ ∃ id,τ[i]? = some (some id)
 | 0,_,i,o,hi,_ => by omega
 | n + 1,hh,i,o,hi,ho => by
  simp only [newOk,qj] at hh
  rcases qm i n with k | k
  ·exact newOk_ok hh.1 i o k ho
  ·have : i = n := by omega
   subst this
   have h2 := hh.2
   have hg : hget fh (n0 + i) = some o := by unfold hget; rw [ho]
   rw [hg] at h2
   cases o with
   | rows m l full root =>
    refine ⟨⟨m,l,full,root,rfl⟩, ?_⟩
    cases hτ : τ[i]? with
    | none => rw [hτ] at h2; cases h2
    | some x =>
     cases x with
     | none => rw [hτ] at h2; cases h2
     | some id => exact ⟨id,rfl⟩
   | cells cs => cases h2
   | mp es => cases h2
   | it s p => cases h2
theorem mp_zipL {n0 : Nat} {τ : Ren} {es es0 : List (Int × SV C.T)} {as : List (AVal × AVal)} (hk : mpKeys es es0 = true) (h : ∀ p,p ∈ mpZip es es0 → GoodL E n0 τ p) (hE : MpOk E es as) : MpOk (E.lp n0 τ) es0 as := by
 simp only [mpKeys,qj,List.all_eq_true,List.any_eq_true,beq_iff_eq] at hk
 refine ⟨hE.keys,nodupI_ok hk.2,fun n x hx => ?_,fun n v hv => ?_⟩
 ·have hp := h _ (List.mem_map.2 ⟨(n,x),hx,rfl⟩)
  simp only at hp
  cases hf : es.find? fun p => p.1 == n with
  | some p =>
   rw [hf] at hp
   have hm := List.mem_of_find?_eq_some hf
   have hn := List.find?_some hf
   simp only [beq_iff_eq] at hn
   obtain ⟨m,y⟩ := p
   simp only at hn
   subst hn
   rcases hE.val m y hm with ⟨v,h1,h2⟩ | ⟨h1,h2⟩
   ·exact .inl ⟨v,h1,hp v h2⟩
   ·exact .inr ⟨h1,hp _ h2⟩
  | none =>
   rw [hf] at hp
   rw [List.find?_eq_none] at hf
   refine .inr ⟨?_,hp _ (.a _)⟩
   cases hv : mpAt n as with
   | none => rfl
   | some v =>
    obtain ⟨y,hy⟩ := hE.dom n v hv
    exact (hf _ hy (by simp)).elim
 ·obtain ⟨y,hy⟩ := hE.dom n v hv
  obtain ⟨q,hq,e⟩ := hk.1 _ hy
  obtain ⟨m,x⟩ := q
  simp only at e
  subst e
  exact ⟨x,hq⟩
theorem PinO.obj (hC : CodecOk C) {lo n0 : Nat} {h : SH C} {H : Heap} {W : List (SV C.T × SV C.T)} {τ : Ren} (hS : SimH E lo 0 h H) (hW : ∀ p,p ∈ W → GoodL E n0 τ p) {id : Nat} {o : Obj C.T} (k : id < n0) (hp : PinO h W id o) : (∃ o',h[id]? = some (some o')) ∧ ObjOk (E.lp n0 τ) H id o := by
 have hβ : (E.lp n0 τ).β id = E.β id := lp_old k
 have hγ : (E.lp n0 τ).γ id = E.γ id := lp_old k
 cases o with
 | cells cs0 =>
  obtain ⟨cs,h1,h2,h3⟩ := hp
  obtain ⟨b,as,k1,k2,k3,k4⟩ := hS.obj id _ h1
  exact ⟨⟨_,h1⟩,b,as,by rw [hβ]; exact k1,k2,k3,goodL_zip h2 (fun p hp => hW p (h3 p hp)) k4⟩
 | mp es0 =>
  obtain ⟨es,h1,h2,h3⟩ := hp
  obtain ⟨b,as,k1,k2,k3,k4⟩ := hS.obj id _ h1
  exact ⟨⟨_,h1⟩,b,as,by rw [hβ]; exact k1,k2,k3,mp_zipL h2 (fun p hp => hW p (h3 p hp)) k4⟩
 | rows n l full0 root =>
  obtain ⟨full,h1,h2⟩ := hp
  refine ⟨⟨_,h1⟩, ?_⟩
  rcases hS.obj id _ h1 with ⟨rfl,k1,a,k2,k3⟩ | ⟨b,off,cap,ex,as,k1,k2,k3,k4,k5,k6,k7,k8,k9⟩
  ·exact .inl ⟨rfl,by rw [hβ]; exact k1,a,by rw [hγ]; exact k2,k3⟩
  ·refine .inr ⟨b,off,cap,ex,as,by rw [hγ]; exact k1,by rw [hβ]; exact k2,k3,k4,k5,k6,k7,fun hf => k8 (h2 hf), ?_⟩
   intro i y jj x a q1 q2 q3
   exact noId_er hC (E := E) (E' := E.lp n0 τ) (fun _ _ h => h) (k9 i y jj x a q1 q2 q3) (List.all_eq_true.1 (hC.ids n y) x (qp q2))
 | it s p => exact hp.elim
theorem lp_simO (hC : CodecOk C) {lo n0 : Nat} {h fh : SH C} {H : Heap} {τ : Ren} (hS : SimH E lo 0 h H) (hn : n0 ≤ h.length) (hf : n0 ≤ fh.length) (hτl : τ.length = fh.length - n0) (hτ : RenOk τ)
 (hobj : ∀ (j : Nat) (o : Obj C.T),j < n0 → fh[j]? = some (some o) → (∃ o',h[j]? = some (some o')) ∧ ObjOk (E.lp n0 τ) H j o) (hrow : ∀ (j id : Nat),τ[j]? = some (some id) → RowL n0 h fh (n0 + j) id) (hnew : newOk n0 fh τ (fh.length - n0) = true) :
 SimH (E.lp n0 τ) lo 0 fh H := by
 have nm : ∀ (i : Nat) (o : Obj C.T),fh[i]? = some (some o) → ∃ id,(E.lp n0 τ).β i = E.β id ∧ (E.lp n0 τ).γ i = E.γ id ∧ (∃ o',h[id]? = some (some o')) ∧ ((i < n0 ∧ id = i) ∨ (n0 ≤ i ∧ τ[i - n0]? = some (some id) ∧ (n0 ≤ id ∨ hget fh id = none))) := by
  intro i o hi
  rcases qm i n0 with k | k
  ·exact ⟨i,lp_old k,lp_old k,(hobj i o k hi).1,.inl ⟨k,rfl⟩⟩
  ·have hi2 : i - n0 < fh.length - n0 := by have := lt_of_some hi; omega
   obtain ⟨_,id,hid⟩ := newOk_ok hnew (i - n0) o hi2 (by rw [show n0 + (i - n0) = i by omega]; exact hi)
   obtain ⟨n,l,full,full0,root,h1,_,_,h4⟩ := hrow _ _ hid
   exact ⟨id,lp_new k hid,lp_new k hid,⟨_,h1⟩,.inr ⟨k,hid,h4⟩⟩
 have back : ∀ (i b : Nat),(E.lp n0 τ).β i = some b → ∃ id,E.β id = some b ∧ (i < n0 → id = i) := by
  intro i b hb
  rcases qm i n0 with k | k
  ·have : (E.lp n0 τ).β i = E.β i := lp_old k
   rw [this] at hb
   exact ⟨i,hb,fun _ => rfl⟩
  ·have hb : lpβ n0 τ E.β i = some b := hb
   unfold lpβ at hb
   rw [if_neg (by omega)] at hb
   cases hj : τ[i - n0]? with
   | none => rw [hj] at hb; cases hb
   | some o =>
    cases o with
    | none => rw [hj] at hb; cases hb
    | some id => rw [hj] at hb; exact ⟨id,hb,fun h => by omega⟩
 refine ⟨?_, ?_, ?_, ?_, ?_, ?_, ?_, ?_,Nat.zero_le _,hS.ll⟩
 ·intro i o hi
  obtain ⟨id,hβ,hγ,_,hc⟩ := nm i o hi
  rcases hc with ⟨k,rfl⟩ | ⟨k,hid,_⟩
  ·exact (hobj id o k hi).2
  ·obtain ⟨n,l,full,full0,root,h1,h2,h3,h4⟩ := hrow _ _ hid
   rw [show n0 + (i - n0) = i by omega,hi] at h2
   cases h2
   rcases hS.obj id _ h1 with ⟨rfl,k1,a,k2,k3⟩ | ⟨b,off,cap,ex,as,k1,k2,k3,k4,k5,k6,k7,k8,k9⟩
   ·exact .inl ⟨rfl,by rw [hβ]; exact k1,a,by rw [hγ]; exact k2,k3⟩
   ·refine .inr ⟨b,off,cap,ex,as,by rw [hγ]; exact k1,by rw [hβ]; exact k2,k3,k4,k5,k6,k7,fun hf => k8 (h3 hf), ?_⟩
    intro i y jj x a q1 q2 q3
    exact noId_er hC (E := E) (E' := E.lp n0 τ) (fun _ _ h => h) (k9 i y jj x a q1 q2 q3) (List.all_eq_true.1 (hC.ids n y) x (qp q2))
 ·intro i i' o o' b hi hi' hb hb'
  obtain ⟨id,hβ,_,⟨p,hp⟩,hc⟩ := nm i o hi
  obtain ⟨id',hβ',_,⟨p',hp'⟩,hc'⟩ := nm i' o' hi'
  rw [hβ] at hb
  rw [hβ'] at hb'
  have e := hS.inj id id' p p' b hp hp' hb hb'
  subst e
  have live : ∀ (i : Nat) (o : Obj C.T),fh[i]? = some (some o) → hget fh i ≠ none := by
   intro i o h1 h2
   exact hget_none_of h2 o h1
  rcases hc with ⟨k,e1⟩ | ⟨k,h1,h2⟩ <;> rcases hc' with ⟨k',e2⟩ | ⟨k',h1',h2'⟩
  ·omega
  ·subst e1
   rcases h2' with h3 | h3
   ·omega
   ·exact (live _ _ hi h3).elim
  ·subst e2
   rcases h2 with h3 | h3
   ·omega
   ·exact (live _ _ hi' h3).elim
  ·have := hτ _ _ id h1 h1'
   omega
 ·intro b cs hf
  refine ⟨(hS.fr b cs hf).1,fun i o hi hb => ?_⟩
  obtain ⟨id,hβ,_,⟨p,hp⟩,_⟩ := nm i o hi
  rw [hβ] at hb
  exact (hS.fr b cs hf).2 id p hp hb
 ·intro i hi
  have h1 : τ[i - n0]? = none := by rw [List.getElem?_eq_none_iff]; omega
  have h2 : ∀ {α : Type} (f : Nat → Option α),lpβ n0 τ f i = none := by
   intro α f
   unfold lpβ
   rw [if_neg (by omega),h1]
   rfl
  exact ⟨h2 _,h2 _⟩
 ·intro i b _ hb
  obtain ⟨id,h1,_⟩ := back i b hb
  exact hS.low id b (Nat.zero_le _) h1
 ·intro i b hb
  obtain ⟨id,h1,_⟩ := back i b hb
  exact hS.bnd id b h1
 ·exact hS.own
 ·intro i b hb
  obtain ⟨id,h1,_⟩ := back i b hb
  exact hS.βω id b h1
theorem lp_sim (hC : CodecOk C) {lo n0 : Nat} {h fh : SH C} {H : Heap} {W : List (SV C.T × SV C.T)} {τ : Ren} (hS : SimH E lo 0 h H) (hn : n0 ≤ h.length) (hf : n0 ≤ fh.length) (hτl : τ.length = fh.length - n0) (hτ : RenOk τ)
 (hW : ∀ p,p ∈ W → GoodL E n0 τ p) (hpin : ∀ (j : Nat) (o : Obj C.T),j < n0 → fh[j]? = some (some o) → PinO h W j o) (hrow : ∀ (j id : Nat),τ[j]? = some (some id) → RowL n0 h fh (n0 + j) id) (hnew : newOk n0 fh τ (fh.length - n0) = true) :
 SimH (E.lp n0 τ) lo 0 fh H :=
 lp_simO hC hS hn hf hτl hτ (fun j o hj ho => (hpin j o hj ho).obj hC hS hW hj) hrow hnew
theorem lp_len {E0 : Env} {lo wlo n0 pn N0 : Nat} {h0 : SH C} {H0 : Heap} {τ : Ren} (hS : SimH E0 lo wlo h0 H0) (hn : h0.length = n0) (hpn : n0 ≤ pn) (hle : LeN n0 N0 E0 E) : LeN n0 N0 E0 (E.lp pn τ) := by
 have key : ∀ {α : Type} {f g : Nat → Option α},(∀ id a,f id = some a → g id = some a) → (∀ id,n0 ≤ id → f id = none) → ∀ id a,f id = some a → lpβ pn τ g id = some a := by
  intro α f g h1 h2 id a ha
  rcases qm id n0 with k | k
  ·rw [lp_old (by omega)]; exact h1 id a ha
  ·rw [h2 id k] at ha; cases ha
 refine ⟨⟨key hle.le.β fun id hid => (hS.fresh id (by omega)).1,key hle.le.γ fun id hid => (hS.fresh id (by omega)).2,hle.le.ω,hle.le.Fr⟩,fun id hid => ?_,hle.fr,hle.own⟩
 have hid2 : id < pn := by omega
 exact ⟨(lp_old hid2 : lpβ pn τ E.β id = E.β id).trans (hle.old id hid).1,(lp_old hid2 : lpβ pn τ E.γ id = E.γ id).trans (hle.old id hid).2⟩
theorem lpAll_ok (hC : CodecOk C) {E0 : Env} {lo wlo n0 pn N0 : Nat} {h0 : SH C} {H0 H : Heap} {r : SR C} {ρ : List AVal} {h : SH C} {regs : List (Nat × SV C.T)} {fh : SH C} {K : Tree} (hS0 : SimH E0 lo wlo h0 H0) (hn : h0.length = n0) (hpn : n0 ≤ pn) (hle : LeN n0 N0 E0 E) (hR : SimR E r ρ) (hS : SimH E lo 0 h H) (hh : (lpAll pn r h regs fh K).holds) :
 K.holds ∧ pn ≤ fh.length ∧ ∃ E',SimR E' (SR.only r.n regs) ρ ∧ SimH E' lo 0 fh H ∧ LeN n0 N0 E0 E' := by
 unfold lpAll at hh
 cases hb : (Nat.ble pn h.length && Nat.ble pn fh.length) with
 | false => rw [hb] at hh; exact qa1 hh
 | true =>
  rw [hb] at hh
  simp only [cond_true] at hh
  rw [qj,Nat.ble_eq,Nat.ble_eq] at hb
  obtain ⟨W,h1,h2⟩ := lpOs_ok hh
  obtain ⟨τ,k1,k2,k3,k4,k5⟩ := lpV_ok hC h1 (fun j j' id h _ => by rw [List.getElem?_replicate] at h; split at h <;> cases h)
  have k3 : (bif newOk pn fh τ (fh.length - pn) then K else Tree.stuck "lp: an object that nothing leads to").holds := k3
  cases hnew : newOk pn fh τ (fh.length - pn) with
  | false => rw [hnew] at k3; exact qa1 k3
  | true =>
   rw [hnew] at k3
   have hrow : ∀ (j id : Nat),τ[j]? = some (some id) → RowL pn h fh (pn + j) id := fun j id hj => (k5 j id hj).resolve_left fun h => by rw [List.getElem?_replicate] at h; split at h <;> cases h
   refine ⟨k3,hb.2,E.lp pn τ, ?_,lp_sim hC hS hb.1 hb.2 (by rw [k2.1]; simp) k1 k4 (fun j o hj ho => (h2 j o hj ho).mono fun p hp => List.mem_append_right _ hp) hrow hnew,lp_len hS0 hn hpn hle⟩
   refine only_sim hR.len hR.small fun q hq => ?_
   exact k4 (r.get q.1,q.2) (List.mem_append_left _ (List.mem_map.2 ⟨q,hq,rfl⟩)) _ (hR.val q.1)
noncomputable def lpFam (n0 : Nat) (m0 : Option Nat) (c : LpD C) (r : SR C) (h : SH C) : Tree :=
 bif Nat.ble n0 c.pn then .ex c.St fun s => lpAll c.pn r (nilAll (fun _ => true) (c.heap s) c.pn h) (c.regs s) (c.heap s) (.need (c.I s) (match m0 with
  | none => .ok
  | some m => .need (c.m s < m) .ok))
 else .stuck "names"
noncomputable def lpChk (nt n0 : Nat) (cuts : List (Nat × LpD C)) (sel : SR C → SH C → Nat) (m0 : Option Nat) : CutX C := fun rid => bif cuts.any fun p => Nat.beq p.1 rid then
 some fun r h => bif Nat.beq r.n nt then (match cuts[sel r h]? with
  | some p => bif Nat.beq p.1 rid then lpFam n0 m0 p.2 r h else .stuck "lp: elsewhere"
  | none => .stuck "lp: which") else .stuck "frame"
 else none
noncomputable def lpVC (F : Cf C) (ctr : FuncId → Option (Ctr C)) (N : Nat) (fn : Func) (body : Code) (n0 : Nat) (cuts : List (Nat × LpD C)) (sel : SR C → SH C → Nat) (fin : FinX C) (p : Nat × LpD C) : Tree :=
 .all p.2.St fun s => .imp (p.2.I s) (match (allK body []).find? fun q => Nat.beq q.1 p.1 with
  | some (_,.c (.region _ ops draw) :: k) => regionX F (callX F ctr (symx F ctr N)) 0 ops draw (SR.only fn.ntmps (p.2.regs s)) (p.2.heap s) fun r h => symx F ctr N (lpChk fn.ntmps n0 cuts sel (some (p.2.m s))) 0 k r h fin
  | _ => .stuck "no such cut")
noncomputable def lpVCs (F : Cf C) (ctr : FuncId → Option (Ctr C)) (N : Nat) (fn : Func) (body : Code) (n0 : Nat) (cuts : List (Nat × LpD C)) (sel : SR C → SH C → Nat) (fin : FinX C) : List (Nat × LpD C) → Tree → Tree
 | [],K => K
 | p :: l,K => .and (lpVC F ctr N fn body n0 cuts sel fin p) (lpVCs F ctr N fn body n0 cuts sel fin l K)
theorem lpVCs_ok {F : Cf C} {ctr : FuncId → Option (Ctr C)} {N : Nat} {fn : Func} {body : Code} {n0 : Nat} {cuts : List (Nat × LpD C)} {sel : SR C → SH C → Nat} {fin : FinX C} : ∀ {l : List (Nat × LpD C)} {K : Tree},(lpVCs F ctr N fn body n0 cuts sel fin l K).holds → K.holds ∧ ∀ p,p ∈ l → (lpVC F ctr N fn body n0 cuts sel fin p).holds
 | [],K,hh => ⟨hh,fun p hp => by simp at hp⟩
 | q :: l,K,hh => by
  obtain ⟨h1,h2⟩ := hh
  obtain ⟨h3,h4⟩ := lpVCs_ok (l := l) h2
  refine ⟨h3,fun p hp => ?_⟩
  rcases List.mem_cons.1 hp with rfl | hp
  ·exact h1
  ·exact h4 p hp
noncomputable def loopCtr (F : Cf C) (ctr : FuncId → Option (Ctr C)) (N : Nat) (fn : Func) (body : Code) (fam : List (SV C.T) → SH C → List (Nat × LpD C)) (sel : SR C → SH C → Nat) : Ctr C := fun wlo args h K =>
 bif Nat.beq wlo 0 && Nat.ble args.length fn.ntmps && Nat.ble fn.ntmps 512 then
  lpVCs F ctr N fn body h.length (fam args h) sel (fun _ r h' => resultsX F.S.P r h' fn.results.toList fun vs => K (tupledS vs) h') (fam args h)
   (symx F ctr N (lpChk fn.ntmps h.length (fam args h) sel none) 0 [.c body] (SR.frame args fn.ntmps) h fun _ r h' => resultsX F.S.P r h' fn.results.toList fun vs => K (tupledS vs) h')
 else .stuck "frame"
theorem loopCtr_ok {F : Cf C} (hC : CodecOk C) (hX : ExtNo F.S F.noExt) (hL : HookLow F.S) {ctr : FuncId → Option (Ctr C)} (hctr : CtrOk F.S ctr) {f : FuncId} {fn : Func} {body : Code} (hf : F.S.P.funcs[f]? = some fn) (hb : fn.body = some body) (hk : F.S.hook f = none) (hp : F.S.pol f = .keep)
 (N : Nat) (fam : List (SV C.T) → SH C → List (Nat × LpD C)) (sel : SR C → SH C → Nat) (hnd : nodupB ((allK body []).map (·.1)) = true) : CtrOk1 F.S f (loopCtr F ctr N fn body fam sel) := by
 intro E lo wlo args h H K av hh hS hA
 unfold loopCtr at hh
 cases hfr : (Nat.beq wlo 0 && Nat.ble args.length fn.ntmps && Nat.ble fn.ntmps 512) with
 | false => rw [hfr] at hh; exact qa1 hh
 | true =>
 rw [hfr] at hh
 simp only [cond_true] at hh
 rw [qj,qj,Nat.beq_eq,Nat.ble_eq,Nat.ble_eq] at hfr
 obtain ⟨⟨rfl,hn⟩,hs⟩ := hfr
 obtain ⟨hentry,hvcs⟩ := lpVCs_ok hh
 generalize hcuts : fam args h = cuts at hentry hvcs
 have hR := frame_sim hA (n := fn.ntmps) (by rw [← hA.1]; exact hn) hs
 let fin : FinX C := fun _ r h' => resultsX F.S.P r h' fn.results.toList fun vs => K (tupledS vs) h'
 let Q : AExit → List AVal → Heap → Prop := fun _ ρ' H' => ∃ r' h' E',(resultsX F.S.P r' h' fn.results.toList fun vs => K (tupledS vs) h').holds ∧ SimR E' r' ρ' ∧ SimH E' lo 0 h' H' ∧ LeN h.length H.length E E' ∧ h.length ≤ h'.length ∧ H.length ≤ H'.length
 have hcut' : ∀ (m0 : Option Nat) {id : Nat} {chk : SR C → SH C → Tree},lpChk fn.ntmps h.length cuts sel m0 id = some chk → ∀ {r : SR C} {ρ : List AVal} {h1 : SH C} {H1 : Heap} {E1 : Env},(chk r h1).holds → SimR E1 r ρ → SimH E1 lo 0 h1 H1 → LeN h.length H.length E E1 → h.length ≤ h1.length → H.length ≤ H1.length →
  r.n = fn.ntmps ∧ ∃ p,p ∈ cuts ∧ p.1 = id ∧ ∃ s,p.2.I s ∧ (∀ m,m0 = some m → p.2.m s < m) ∧ h.length ≤ (p.2.heap s).length ∧ ∃ E',SimR E' (SR.only r.n (p.2.regs s)) ρ ∧ SimH E' lo 0 (p.2.heap s) H1 ∧ LeN h.length H.length E E' := by
  intro m0 id chk hc
  unfold lpChk at hc
  cases hany : (cuts.any fun p => Nat.beq p.1 id) with
  | false => rw [hany] at hc; cases hc
  | true =>
   rw [hany] at hc
   simp only [cond_true,qa] at hc
   subst hc
   intro r ρ h1 H1 E1 hh hR hS1 hle hl1 hl2
   simp only at hh
   cases hbn : Nat.beq r.n fn.ntmps with
   | false => rw [hbn] at hh; exact qa1 hh
   | true =>
   rw [hbn] at hh
   rw [Nat.beq_eq] at hbn
   simp only [cond_true] at hh
   split at hh
   ·rename_i p hp0
    cases hid : Nat.beq p.1 id with
    | false => rw [hid] at hh; exact qa1 hh
    | true =>
    rw [hid] at hh
    rw [Nat.beq_eq] at hid
    simp only [cond_true] at hh
    have hmem := qp hp0
    unfold lpFam at hh
    cases hpn : Nat.ble h.length p.2.pn with
    | false => rw [hpn] at hh; exact qa1 hh
    | true =>
    rw [hpn] at hh
    rw [Nat.ble_eq] at hpn
    obtain ⟨s,hs⟩ := hh
    obtain ⟨n0,n1⟩ := nilAll_to (fun _ => true) (p.2.heap s) p.2.pn h1
    obtain ⟨E3,n2,n3⟩ := n1 E1 lo 0 H1 hS1
    obtain ⟨g1,g2,g3⟩ := lpAll_ok hC hS rfl hpn (hle.trans hl1 hl2 n2) (hR.mono n2.le) n3 hs
    refine ⟨hbn,p,hmem,hid,s,g1.1,fun m hm => ?_,by omega,g3⟩
    subst hm
    exact g1.2.1
   ·exact qa1 hh
 have cut : ∀ (M : Nat) (p : Nat × LpD C) (s : p.2.St),p ∈ cuts → p.2.I s → p.2.m s < M → h.length ≤ (p.2.heap s).length → ∀ (k : List Kt),(p.1,k) ∈ allK body [] → SubK (allK body []) k → ∀ (E1 : Env) (ρ1 : List AVal) (H1 : Heap),SimR E1 (SR.only fn.ntmps (p.2.regs s)) ρ1 → SimH E1 lo 0 (p.2.heap s) H1 → LeN h.length H.length E E1 → H.length ≤ H1.length →
  ∃ x ρ' H',RunsK F.S lo k ρ1 H1 (x,ρ',H') ∧ Q x ρ' H' := by
  intro M
  induction M with
  | zero => intro p s _ _ hm; omega
  | succ M ih =>
   intro p s hpc hI hm hhl k hkm hsub E1 ρ1 H1 hR1 hS1 hle1 hHl
   have hv := hvcs p hpc s hI
   split at hv
   ·rename_i rid id ops draw k0 hfind
    obtain ⟨hmem,hrid⟩ := find_ok hfind
    simp only at hrid
    subst hrid
    have hkk := nodupB_uniq hnd hkm hmem
    subst hkk
    obtain ⟨ρ2,H2,r2,h2,E2,q1,q2,q3,q4,q5,q6,q7⟩ := regionX_ok (id := id) hC hX hL (callX_ok hC hctr (symx_ok hC hX hL hctr N)) hR1 hS1 hv
    have big : ∀ {E' : Env} {n N : Nat},h.length ≤ n → H.length ≤ N → LeN n N E1 E' → LeN h.length H.length E E' := fun h1 h2 h3 => hle1.trans h1 h2 h3
    obtain ⟨x,ρ',H',g1,g2⟩ := symx_ok hC hX hL hctr N _ _ _ _ _ _ _ _ _ _ (allK body []) Q q7 q4 q5 hsub.2
     (fun x r' h' E' ρ' H' p1 p2 p3 p4 p5 p6 => ⟨r',h',E',p1,p2,p3,big hhl hHl (q2.trans q3 q6 p4),by omega,by omega⟩)
     (fun id' chk k' r' h' E' ρ' H' p0 p00 p000 p1 p2 p3 p4 p5 p6 => by
      obtain ⟨hr'n,p',w1,w2,s',w4,w5,w6,E'',w7,w8,w9⟩ := hcut' _ p0 p1 p2 p3 (big hhl hHl (q2.trans q3 q6 p4)) (by omega) (by omega)
      rw [hr'n] at w7
      exact ih p' s' w1 w4 (by have := w5 _ rfl; omega) w6 k' (by rw [w2]; exact p00) p000 E'' ρ' H' w7 w8 w9 (by omega))
    exact ⟨x,ρ',H',.c q1 g1,g2⟩
   ·exact qa1 hv
 obtain ⟨x,ρ',H',hrun,r',h',E',k1,k2,k3,k4,k5,k6⟩ := symx_ok hC hX hL hctr N _ _ _ _ _ _ _ _ _ _ (allK body []) Q hentry hR hS ⟨fun y hy => hy,trivial⟩
  (fun x r' h' E' ρ' H' p1 p2 p3 p4 p5 p6 => ⟨r',h',E',p1,p2,p3,p4,p5,p6⟩)
  (fun id' chk k' r' h' E' ρ' H' p0 p00 p000 p1 p2 p3 p4 p5 p6 => by
   obtain ⟨hr'n,p',w1,w2,s',w4,w5,w6,E'',w7,w8,w9⟩ := hcut' _ p0 p1 p2 p3 p4 p5 p6
   rw [hr'n] at w7
   exact cut (p'.2.m s' + 1) p' s' w1 w4 (by omega) w6 k' (by rw [w2]; exact p00) p000 E'' ρ' H' w7 w8 w9 p6)
 obtain ⟨hrun,hne⟩ := hrun.out
 obtain ⟨vs,as,e1,e2,e3⟩ := resultsX_ok (S := F.S) hC k2 k3 k1
 obtain ⟨m,hm⟩ := hrun
 refine ⟨tupled as,H',tupledS vs,h',E',⟨m, ?_⟩,k4,k5,k3,k6,tupled_er e2,e3⟩
 simp only [callA,hk,hf,hb,hp,Pol.lo]
 rw [hm]
 cases x with
 | exit i => exact (hne i rfl).elim
 | normal => simp only [e1]; rfl
 | ret => simp only [e1]; rfl
noncomputable def selX (nt : Nat) (D : FnD C) (sel : Nat → SR C → SH C → Option Nat) (m0 : Option Nat) : CutX C := fun rid => bif D.cuts.any fun p => Nat.beq p.1 rid then
 some fun r h => bif Nat.beq r.n nt then (match sel rid r h with
  | some i => match D.cuts[i]? with
   | some p => bif Nat.beq p.1 rid then famX m0 p.2 r h else .stuck "sel: elsewhere"
   | none => .stuck "sel: which"
  | none => .stuck "sel: none") else .stuck "frame"
 else none
noncomputable def entryS (F : Cf C) (ctr : FuncId → Option (Ctr C)) (N : Nat) (fn : Func) (body : Code) (D : FnD C) (sel : Nat → SR C → SH C → Option Nat) (args : List (SV C.T)) : Tree :=
 symx F ctr N (selX fn.ntmps D sel none) 0 [.c body] (SR.frame args fn.ntmps) [] (finX F.S.P fn.results.toList D)
noncomputable def cutS (F : Cf C) (ctr : FuncId → Option (Ctr C)) (N : Nat) (fn : Func) (body : Code) (D : FnD C) (sel : Nat → SR C → SH C → Option Nat) (rid : Nat) (c : CutD C) (s : c.St) : Tree :=
 match (allK body []).find? fun p => Nat.beq p.1 rid with
 | some (_,.c (.region _ ops draw) :: k) => regionX F (callX F ctr (symx F ctr N)) 0 ops draw (SR.only fn.ntmps (c.regs s)) ((c.objs s).map some) fun r h => symx F ctr N (selX fn.ntmps D sel (some (c.m s))) 0 k r h (finX F.S.P fn.results.toList D)
 | _ => .stuck "no such cut"
theorem fn_runsS {F : Cf C} (hC : CodecOk C) (hX : ExtNo F.S F.noExt) (hL : HookLow F.S) {ctr : FuncId → Option (Ctr C)} (hctr : CtrOk F.S ctr) {f : FuncId} {fn : Func} {body : Code} (hf : F.S.P.funcs[f]? = some fn) (hb : fn.body = some body) (hk : F.S.hook f = none)
 (D : FnD C) (sel : Nat → SR C → SH C → Option Nat) (N : Nat) {args : List (SV C.T)} (hn : args.length ≤ fn.ntmps) (hs : fn.ntmps ≤ 512) (hnd : nodupB ((allK body []).map (·.1)) = true)
 (hentry : (entryS F ctr N fn body D sel args).holds) (hcuts : ∀ p,p ∈ D.cuts → ∀ s,p.2.I s → (cutS F ctr N fn body D sel p.1 p.2 s).holds)
 {lo : Nat} {H : Heap} {av : List AVal} (hS : SimH E ((F.S.pol f).lo lo H) 0 ([] : SH C) H) (hA : Ers E args av) :
 ∃ n v H' E',callA F.S (execA F.S n) lo f av H = finish (F.S.pol f) H v H' ∧ SimH E' ((F.S.pol f).lo lo H) 0 (D.objs.map some) H' ∧ Er E' D.res v := by
 -- where a run ends
 let Q : AExit → List AVal → Heap → Prop := fun _ ρ' H' => ∃ r' h' E',(finX F.S.P fn.results.toList D .ret r' h').holds ∧ SimR E' r' ρ' ∧ SimH E' ((F.S.pol f).lo lo H) 0 h' H'
 have hcut' : ∀ (m0 : Option Nat) {id : Nat} {chk : SR C → SH C → Tree},selX fn.ntmps D sel m0 id = some chk → ∀ {r : SR C} {ρ : List AVal} {h : SH C} {lo : Nat} {H : Heap} {E1 : Env},(chk r h).holds → SimR E1 r ρ → SimH E1 lo 0 h H →
  r.n = fn.ntmps ∧ ∃ p,p ∈ D.cuts ∧ p.1 = id ∧ ∃ s,p.2.I s ∧ (∀ m,m0 = some m → p.2.m s < m) ∧ ∃ E',SimR E' (SR.only r.n (p.2.regs s)) ρ ∧ SimH E' lo 0 ((p.2.objs s).map some) H := by
  intro m0 id chk hc
  unfold selX at hc
  cases hany : (D.cuts.any fun p => Nat.beq p.1 id) with
  | false => rw [hany] at hc; cases hc
  | true =>
   rw [hany] at hc
   simp only [cond_true,qa] at hc
   subst hc
   intro r ρ h lo H E1 hh hR hS
   simp only at hh
   cases hb : Nat.beq r.n fn.ntmps with
   | false => rw [hb] at hh; exact qa1 hh
   | true =>
   rw [hb] at hh
   rw [Nat.beq_eq] at hb
   simp only [cond_true] at hh
   split at hh
   ·rename_i i hi
    split at hh
    ·rename_i p hp
     cases hid : Nat.beq p.1 id with
     | false => rw [hid] at hh; exact qa1 hh
     | true =>
      rw [hid] at hh
      rw [Nat.beq_eq] at hid
      obtain ⟨s,hs⟩ := hh
      obtain ⟨⟨g1,g2⟩,g3⟩ := leAll_ok hC hR hS hs
      refine ⟨hb,p,qp hp,hid,s,g1,fun m hm => ?_,g3⟩
      subst hm
      exact g2.1
    ·exact qa1 hh
   ·exact qa1 hh
 have cut : ∀ (M : Nat) (p : Nat × CutD C) (s : p.2.St),p ∈ D.cuts → p.2.I s → p.2.m s < M → ∀ (k : List Kt),(p.1,k) ∈ allK body [] → SubK (allK body []) k → ∀ (E1 : Env) (ρ1 : List AVal) (H1 : Heap),SimR E1 (SR.only fn.ntmps (p.2.regs s)) ρ1 → SimH E1 ((F.S.pol f).lo lo H) 0 ((p.2.objs s).map some) H1 →
  ∃ x ρ' H',RunsK F.S ((F.S.pol f).lo lo H) k ρ1 H1 (x,ρ',H') ∧ Q x ρ' H' := by
  intro M
  induction M with
  | zero => intro p s _ _ hm; omega
  | succ M ih =>
   intro p s hpc hI hm k hkm hsub E1 ρ1 H1 hR1 hS1
   have hv := hcuts p hpc s hI
   unfold cutS at hv
   split at hv
   ·rename_i rid id ops draw k0 hfind
    obtain ⟨hmem,hrid⟩ := find_ok hfind
    simp only at hrid
    subst hrid
    have hkk := nodupB_uniq hnd hkm hmem
    subst hkk
    obtain ⟨ρ2,H2,r2,h2,E2,q1,q2,q3,q4,q5,q6,q7⟩ := regionX_ok (id := id) hC hX hL (callX_ok hC hctr (symx_ok hC hX hL hctr N)) hR1 hS1 hv
    obtain ⟨x,ρ',H',g1,g2⟩ := symx_ok hC hX hL hctr N _ _ _ _ _ _ _ _ _ _ (allK body []) Q q7 q4 q5 hsub.2
     (fun x r' h' E' ρ' H' p1 p2 p3 p4 p5 p6 => ⟨r',h',E',p1,p2,p3⟩)
     (fun id' chk k' r' h' E' ρ' H' p0 p00 p000 p1 p2 p3 p4 p5 p6 => by
      obtain ⟨hr'n,p',w1,w2,s',w4,w5,E'',w7,w8⟩ := hcut' _ p0 p1 p2 p3
      rw [hr'n] at w7
      exact ih p' s' w1 w4 (by have := w5 _ rfl; omega) k' (by rw [w2]; exact p00) p000 E'' ρ' H' w7 w8)
    exact ⟨x,ρ',H',.c q1 g1,g2⟩
   ·exact qa1 hv
 have hR0 := frame_sim hA (n := fn.ntmps) (by rw [← hA.1]; exact hn) hs
 have hsub0 : SubK (allK body []) [.c body] := ⟨fun y hy => hy,trivial⟩
 obtain ⟨x,ρ',H',g1,g2⟩ := symx_ok hC hX hL hctr N _ _ _ _ _ _ _ _ _ _ (allK body []) Q hentry hR0 hS hsub0
  (fun x r' h' E' ρ' H' p1 p2 p3 p4 p5 p6 => ⟨r',h',E',p1,p2,p3⟩)
  (fun id' chk k' r' h' E' ρ' H' p0 p00 p000 p1 p2 p3 p4 p5 p6 => by
   obtain ⟨hr'n,p',w1,w2,s',w4,w5,E'',w7,w8⟩ := hcut' _ p0 p1 p2 p3
   rw [hr'n] at w7
   exact cut (p'.2.m s' + 1) p' s' w1 w4 (by omega) k' (by rw [w2]; exact p00) p000 E'' ρ' H' w7 w8)
 obtain ⟨r',h',E',w1,w2,w3⟩ := g2
 obtain ⟨hrun,hne⟩ := g1.out
 obtain ⟨vs,as,e1,e2,e3⟩ := resultsX_ok (S := F.S) hC w2 w3 w1
 obtain ⟨E'',e5,e6⟩ := leRes_ok hC (tupled_er e2) w3 e3
 obtain ⟨m,hm⟩ := hrun
 refine ⟨m,tupled as,H',E'', ?_,e6,e5⟩
 simp only [callA,hk,hf,hb]
 rw [hm]
 cases x with
 | exit i => exact (hne i rfl).elim
 | normal => simp only [e1]
 | ret => simp only [e1]
theorem law_runsS {F : Cf C} (hC : CodecOk C) (hX : ExtNo F.S F.noExt) (hL : HookLow F.S) {ctr : FuncId → Option (Ctr C)} (hctr : CtrOk F.S ctr) {f : FuncId} {fn : Func} {body : Code} (hf : F.S.P.funcs[f]? = some fn) (hb : fn.body = some body) (hk : F.S.hook f = none) (hp : F.S.pol f = .keep)
 (N : Nat) {args : List (SV C.T)} (cuts : List (Nat × CutD C)) (sel : Nat → SR C → SH C → Option Nat) (hn : args.length ≤ fn.ntmps) (hs : fn.ntmps ≤ 512) (hnd : nodupB ((allK body []).map (·.1)) = true)
 (hentry : Paid (entryS F ctr N fn body ⟨cuts,.b true,[]⟩ sel args)) (hcuts : ∀ p,p ∈ cuts → ∀ s,p.2.I s → Paid (cutS F ctr N fn body ⟨cuts,.b true,[]⟩ sel p.1 p.2 s))
 {av : List AVal} (hA : Ers (away []) args av) : ∃ n H',runA F.S n 0 f av [] = some (.bool true,H') := by
 have hS0 : SimH (away []) ((F.S.pol f).lo 0 []) 0 ([] : SH C) [] := away_sim (by rw [hp]; simp only [Pol.lo]; exact qf _)
 obtain ⟨n,v,H',E',h1,h2,h3⟩ := fn_runsS hC hX hL hctr hf hb hk ⟨cuts,.b true,[]⟩ sel N hn hs hnd hentry.out (fun p hm s hI => (hcuts p hm s hI).out) hS0 hA
 rw [hp] at h1
 cases h3
 exact ⟨n,H',h1⟩
end Go.Sy

/- What a call does to what it is handed, told by states: a contract with the memory ahead of it and behind it, each as families by names. Generic: over any program. -/
namespace Go.Sy
open Go.Am
set_option linter.unusedVariables false
set_option linter.unusedSimpArgs false
variable {C : Codec} {E : Env}
structure OutD (C : Codec) (S : Type) where
 St : Type
 I : S → St → Prop
 heap : St → SH C
structure SumD (C : Codec) where
 pn : Nat
 St : Type
 I : St → Prop
 args : St → List (SV C.T)
 heap : St → SH C
 outs : List (OutD C St)
 sel : SH C → Nat
end Go.Sy

/- What a call does to a few objects, told by states; the others stay as they are, whatever they are. Generic: over any program. -/
namespace Go.Sy
open Go.Am
set_option linter.unusedVariables false
set_option linter.unusedSimpArgs false
variable {C : Codec} {E : Env}
def ltV {T : Nat → Type} (n : Nat) : SV T → Bool
 | .ptr id _ => Nat.blt id n
 | .ep id _ _ => Nat.blt id n
 | .sl _ id _ _ _ _ => Nat.blt id n
 | .R id => Nat.blt id n
 | .mapr id => Nat.blt id n
 | .any => true
 | .a _ => true
 | .i _ _ => true
 | .b _ => true
 | .s _ => true
 | .tl _ _ => true
 | _ => false
def ltO {T : Nat → Type} (n : Nat) : Obj T → Bool
 | .cells cs => cs.all (ltV n)
 | .mp es => es.all fun p => ltV n p.2
 | .rows _ _ _ _ => true
 | .it _ _ => true
theorem lt_er (hC : CodecOk C) {n : Nat} {τ : Ren} {x : SV C.T} {a : AVal} (hx : ltV n x = true) (h : Er E x a) : Er (E.lp n τ) x a := by
 have lt : ∀ {id : Nat},Nat.blt id n = true → id < n := fun h => by rwa [Nat.blt_eq] at h
 cases h with
 | ptr hb => exact .ptr (by show lpβ n τ E.β _ = _; rw [lp_old (lt hx)]; exact hb)
 | ep hb => exact .ep (by show lpβ n τ E.γ _ = _; rw [lp_old (lt hx)]; exact hb)
 | sl hb => exact .sl (by show lpβ n τ E.β _ = _; rw [lp_old (lt hx)]; exact hb)
 | R hb hs => exact .R (by show lpβ n τ E.γ _ = _; rw [lp_old (lt hx)]; exact hb) hs
 | mapr hb => exact .mapr (by show lpβ n τ E.β _ = _; rw [lp_old (lt hx)]; exact hb)
 | any => exact .any
 | a => exact .a _
 | i k m => exact .i k m
 | b t => exact .b t
 | s t => exact .s t
 | tlN => exact .tlN
 | tlL h1 h2 h3 h4 => exact noId_er hC (E := E) (E' := E.lp n τ) (fun _ _ h => h) (.tlL h1 h2 h3 h4) rfl
 | tlS h1 h2 h3 h4 h5 h6 => exact noId_er hC (E := E) (E' := E.lp n τ) (fun _ _ h => h) (.tlS h1 h2 h3 h4 h5 h6) rfl
 | agg _ _ => cases hx
 | tup _ _ => cases hx
 | iface _ => cases hx
 | fn _ _ _ _ => cases hx
 | fpI _ _ _ => cases hx
 | fpP _ _ _ _ => cases hx
theorem lt_obj (hC : CodecOk C) {n : Nat} {τ : Ren} {H : Heap} {id : Nat} {o : Obj C.T} (hid : id < n) (ho : ltO n o = true) (h : ObjOk E H id o) : ObjOk (E.lp n τ) H id o := by
 have hβ : (E.lp n τ).β id = E.β id := lp_old hid
 have hγ : (E.lp n τ).γ id = E.γ id := lp_old hid
 cases o with
 | cells cs =>
  obtain ⟨b,as,h1,hw,h2,h3⟩ := h
  refine ⟨b,as,by rw [hβ]; exact h1,hw,h2,h3.1,fun i x a q1 q2 => lt_er hC ?_ (h3.2 i x a q1 q2)⟩
  exact List.all_eq_true.1 ho x (qp q1)
 | mp es =>
  obtain ⟨b,as,h1,hw,h2,h3⟩ := h
  refine ⟨b,as,by rw [hβ]; exact h1,hw,h2,h3.keys,h3.nodup,fun m x hx => ?_,h3.dom⟩
  have hl := List.all_eq_true.1 ho (m,x) hx
  rcases h3.val m x hx with ⟨v,k1,k2⟩ | ⟨k1,k2⟩
  ·exact .inl ⟨v,k1,lt_er hC hl k2⟩
  ·exact .inr ⟨k1,lt_er hC hl k2⟩
 | it s pos =>
  obtain ⟨b,h1,hw,h2⟩ := h
  exact ⟨b,by rw [hβ]; exact h1,hw,h2⟩
 | rows m l full root =>
  rcases h with ⟨h1,h2,a,h3,h4⟩ | ⟨b,off,cap,ex,as,h1,h2,hw,h3,h4,h5,h6,h7,h8⟩
  ·exact .inl ⟨h1,by rw [hβ]; exact h2,a,by rw [hγ]; exact h3,h4⟩
  ·refine .inr ⟨b,off,cap,ex,as,by rw [hγ]; exact h1,by rw [hβ]; exact h2,hw,h3,h4,h5,h6,h7,fun i y j x a q1 q2 q3 => ?_⟩
   exact noId_er hC (E := E) (E' := E.lp n τ) (fun _ _ h => h) (h8 i y j x a q1 q2 q3) (List.all_eq_true.1 (hC.ids m y) x (qp q2))
def lpOsF (h fh : SH C) (foot : Nat → Bool) : Nat → (List (SV C.T × SV C.T) → Tree) → Tree
 | 0,K => K []
 | j + 1,K => bif foot j then (lpOsF h fh foot j fun W => lpO h fh j fun W1 => K (W1 ++ W)) else lpOsF h fh foot j K
theorem lpOsF_ok {h fh : SH C} {foot : Nat → Bool} : ∀ {n : Nat} {K : List (SV C.T × SV C.T) → Tree},(lpOsF h fh foot n K).holds → ∃ W,(K W).holds ∧ ∀ (j : Nat) (o : Obj C.T),j < n → foot j = true → fh[j]? = some (some o) → PinO h W j o
 | 0,K,hh => ⟨[],hh,fun j o hj => by omega⟩
 | n + 1,K,hh => by
  simp only [lpOsF] at hh
  cases hf : foot n with
  | true =>
   rw [hf] at hh
   obtain ⟨W,h1,h2⟩ := lpOsF_ok (n := n) hh
   obtain ⟨W1,h3,h4⟩ := lpO_ok h1
   refine ⟨W1 ++ W,h3,fun j o hj hft ho => ?_⟩
   rcases qm j n with k | k
   ·exact (h2 j o k hft ho).mono fun p hp => List.mem_append_right _ hp
   ·have : j = n := by omega
    subst this
    exact (h4 o ho).mono fun p hp => List.mem_append_left _ hp
  | false =>
   rw [hf] at hh
   obtain ⟨W,h1,h2⟩ := lpOsF_ok (n := n) hh
   refine ⟨W,h1,fun j o hj hft ho => ?_⟩
   rcases qm j n with k | k
   ·exact h2 j o k hft ho
   ·have : j = n := by omega
    subst this
    rw [hf] at hft
    cases hft
noncomputable def lpAllF (n : Nat) (foot : Nat → Bool) (W0 : List (SV C.T × SV C.T)) (h fh : SH C) (K : Tree) : Tree :=
 bif Nat.ble n h.length && Nat.ble n fh.length then
  lpOsF h fh foot n fun W => lpV n h fh 4000 (W0 ++ W) (List.replicate (fh.length - n) none) fun τ => bif newOk n fh τ (fh.length - n) then K else .stuck "fr: an object that nothing leads to"
 else .stuck "fr: memory"
theorem lpAllF_ok (hC : CodecOk C) {E0 : Env} {lo wlo n0 n N0 : Nat} {foot : Nat → Bool} {h0 : SH C} {H0 H : Heap} {W0 : List (SV C.T × SV C.T)} {h fh : SH C} {K : Tree} (hS0 : SimH E0 lo wlo h0 H0) (hn : h0.length = n0) (hpn : n0 ≤ n) (hle : LeN n0 N0 E0 E) (hS : SimH E lo 0 h H)
 (hfr : ∀ (j : Nat) (o : Obj C.T),j < n → foot j = false → fh[j]? = some (some o) → h[j]? = some (some o) ∧ ltO n o = true) (hh : (lpAllF n foot W0 h fh K).holds) :
 K.holds ∧ n ≤ fh.length ∧ ∃ τ,(∀ p,p ∈ W0 → GoodL E n τ p) ∧ SimH (E.lp n τ) lo 0 fh H ∧ LeN n0 N0 E0 (E.lp n τ) := by
 unfold lpAllF at hh
 cases hb : (Nat.ble n h.length && Nat.ble n fh.length) with
 | false => rw [hb] at hh; exact qa1 hh
 | true =>
  rw [hb] at hh
  simp only [cond_true] at hh
  rw [qj,Nat.ble_eq,Nat.ble_eq] at hb
  obtain ⟨W,h1,h2⟩ := lpOsF_ok hh
  obtain ⟨τ,k1,k2,k3,k4,k5⟩ := lpV_ok hC h1 (fun j j' id h _ => by rw [List.getElem?_replicate] at h; split at h <;> cases h)
  have k3 : (bif newOk n fh τ (fh.length - n) then K else Tree.stuck "fr: an object that nothing leads to").holds := k3
  cases hnew : newOk n fh τ (fh.length - n) with
  | false => rw [hnew] at k3; exact qa1 k3
  | true =>
   rw [hnew] at k3
   have hrow : ∀ (j id : Nat),τ[j]? = some (some id) → RowL n h fh (n + j) id := fun j id hj => (k5 j id hj).resolve_left fun h => by rw [List.getElem?_replicate] at h; split at h <;> cases h
   refine ⟨k3,hb.2,τ,fun p hp => k4 p (List.mem_append_left _ hp),lp_simO hC hS hb.1 hb.2 (by rw [k2.1]; simp) k1 (fun j o hj ho => ?_) hrow hnew,lp_len hS0 hn hpn hle⟩
   cases hf : foot j with
   | true => exact ((h2 j o hj hf ho).mono fun p hp => List.mem_append_right _ hp).obj hC hS k4 hj
   | false =>
    obtain ⟨g1,g2⟩ := hfr j o hj hf ho
    exact ⟨⟨o,g1⟩,lt_obj hC hj g2 (hS.obj j o g1)⟩
structure FrO (C : Codec) (S : Type) where
 St : Type
 cond : S → St → Prop
 res : St → SV C.T
 heap : St → SH C → SH C
structure FrD (C : Codec) where
 n : Nat
 foot : Nat → Bool
 St : Type
 I : St → Prop
 args : St → List (SV C.T)
 heap : St → SH C → SH C
 outs : List (FrO C St)
 sel : SV C.T → SH C → Nat
structure FrOk (D : FrD C) : Prop where
 len : ∀ (s : D.St) (h : SH C),h.length = D.n → (D.heap s h).length = D.n
 ahead : ∀ (s : D.St) (h : SH C) (j : Nat),h.length = D.n → j < D.n → D.foot j = false → (D.heap s h)[j]? = h[j]?
 behind : ∀ (B : FrO C D.St),B ∈ D.outs → ∀ (s : B.St) (h : SH C) (j : Nat),h.length = D.n → j < D.n → D.foot j = false → (B.heap s h)[j]? = h[j]?
def frKeep (foot : Nat → Bool) (h' h : SH C) : Nat → Tree → Tree
 | 0,K => K
 | j + 1,K => bif foot j then frKeep foot h' h j K else .need (h'.getD j none = h.getD j none) (frKeep foot h' h j K)
theorem frKeep_ok {foot : Nat → Bool} {h h' : SH C} {K : Tree} : ∀ {n : Nat},(frKeep foot h' h n K).holds → K.holds ∧ ∀ j,j < n → foot j = false → h'.getD j none = h.getD j none
 | 0,hh => ⟨hh,fun j hj => by omega⟩
 | n + 1,hh => by
  simp only [frKeep] at hh
  cases hf : foot n with
  | true =>
   rw [hf] at hh
   obtain ⟨h1,h2⟩ := frKeep_ok (n := n) hh
   refine ⟨h1,fun j hj hj2 => ?_⟩
   rcases qm j n with k | k
   ·exact h2 j k hj2
   ·have : j = n := by omega
    subst this
    rw [hf] at hj2
    cases hj2
  | false =>
   rw [hf] at hh
   obtain ⟨e,hh⟩ := hh
   obtain ⟨h1,h2⟩ := frKeep_ok (n := n) hh
   refine ⟨h1,fun j hj hj2 => ?_⟩
   rcases qm j n with k | k
   ·exact h2 j k hj2
   ·have : j = n := by omega
    subst this
    exact e
noncomputable def frFin (D : FrD C) (s : D.St) (h : SH C) : SV C.T → SH C → Tree := fun sv h' => match D.outs[D.sel sv h']? with
 | some B => .ex B.St fun s' => lpAllF D.n D.foot [(sv,B.res s')] (nilAll D.foot (B.heap s' h) D.n h') (B.heap s' h) (frKeep D.foot (nilAll D.foot (B.heap s' h) D.n h') h D.n (.need (B.cond s s') .ok))
 | none => .stuck "fr: which"
noncomputable def frK {S : Type} (s : S) (h : SH C) (K : SV C.T → SH C → Tree) : List (FrO C S) → Tree
 | [] => .ok
 | B :: l => .and (.all B.St fun s' => .imp (B.cond s s') (K (B.res s') (B.heap s' h))) (frK s h K l)
theorem frK_ok {S : Type} {s : S} {h : SH C} {K : SV C.T → SH C → Tree} : ∀ {l : List (FrO C S)},(frK s h K l).holds → ∀ B,B ∈ l → ∀ s',B.cond s s' → (K (B.res s') (B.heap s' h)).holds
 | [],_,B,hm => by simp at hm
 | A :: l,hh,B,hm => by
  obtain ⟨h1,h2⟩ := hh
  rcases List.mem_cons.1 hm with rfl | hm
  ·exact h1
  ·exact frK_ok h2 B hm
def ltOO {T : Nat → Type} (n : Nat) : Option (Obj T) → Bool
 | none => true
 | some o => ltO n o
def frAsk (n : Nat) (foot q : Nat → Bool) (h : SH C) : Nat → Tree → Tree
 | 0,K => K
 | j + 1,K => bif foot j then frAsk n foot q h j K else bif q j then .need (ltOO n (h.getD j none) = true) (frAsk n foot q h j K) else bif ltOO n (h.getD j none) then frAsk n foot q h j K else .stuck "fr: names"
def FrLow (n : Nat) (foot : Nat → Bool) (h : SH C) (m : Nat) : Prop := ∀ j,j < m → foot j = false → ltOO n (h.getD j none) = true
theorem FrLow.get {n m : Nat} {foot : Nat → Bool} {h : SH C} (hh : FrLow n foot h m) (j : Nat) (o : Obj C.T) (hj : j < m) (hf : foot j = false) (ho : h[j]? = some (some o)) : ltO n o = true := by
 have := hh j hj hf
 rw [qi,ho] at this
 exact this
theorem frAsk_ok {n : Nat} {foot q : Nat → Bool} {h : SH C} {K : Tree} : ∀ {m : Nat},(frAsk n foot q h m K).holds → K.holds ∧ FrLow n foot h m
 | 0,hh => ⟨hh,fun j hj => by omega⟩
 | m + 1,hh => by
  have st : ∀ {X : Prop},(K.holds ∧ FrLow n foot h m) → (foot m = true ∨ ltOO n (h.getD m none) = true) → K.holds ∧ FrLow n foot h (m + 1) := fun a b => ⟨a.1,fun j hj hf => by
   rcases qm j m with k | k
   ·exact a.2 j k hf
   ·have : j = m := by omega
    subst this
    rcases b with b | b
    ·rw [hf] at b; cases b
    ·exact b⟩
  simp only [frAsk] at hh
  cases hf : foot m with
  | true => rw [hf] at hh; exact st (X := True) (frAsk_ok hh) (.inl hf)
  | false =>
   rw [hf] at hh
   cases hq : q m with
   | true =>
    rw [hq] at hh
    obtain ⟨e,hh⟩ := hh
    exact st (X := True) (frAsk_ok hh) (.inr e)
   | false =>
    rw [hq] at hh
    simp only [cond_false] at hh
    cases hl : ltOO n (h.getD m none) with
    | false => rw [hl] at hh; exact qa1 hh
    | true => rw [hl] at hh; exact st (X := True) (frAsk_ok hh) (.inr hl)
noncomputable def frCtrB (q : Nat → Bool) (D : FrD C) : Ctr C := fun wlo args h K =>
 bif Nat.beq wlo 0 && Nat.beq h.length D.n then frAsk D.n D.foot q h D.n (.ex D.St fun s => (bif Nat.beq args.length (D.args s).length then lpAllF D.n D.foot (args.zip (D.args s)) h (D.heap s h) (.need (D.I s) (frK s h K D.outs)) else .stuck "fr: args"))
 else .stuck "fr: names"
theorem frCtrB_ok (hC : CodecOk C) {S : AStat} {f : FuncId} (q : Nat → Bool) (D : FrD C) (hD : FrOk D) (hVC : ∀ s,D.I s → ∀ h : SH C,h.length = D.n → FrLow D.n D.foot h D.n → ∃ c,CtrOk1 S f c ∧ Paid (c 0 (D.args s) (D.heap s h) (frFin D s h))) : CtrOk1 S f (frCtrB q D) := by
 intro E lo wlo args h H K av hh hS hA
 unfold frCtrB at hh
 cases hfr : (Nat.beq wlo 0 && Nat.beq h.length D.n) with
 | false => rw [hfr] at hh; exact qa1 hh
 | true =>
 rw [hfr] at hh
 simp only [cond_true] at hh
 rw [qj,Nat.beq_eq,Nat.beq_eq] at hfr
 obtain ⟨rfl,hpn⟩ := hfr
 obtain ⟨hh,hlow⟩ := frAsk_ok hh
 have hlt := hlow.get
 obtain ⟨s,hs⟩ := hh
 simp only at hs
 cases hl : Nat.beq args.length (D.args s).length with
 | false => rw [hl] at hs; exact qa1 hs
 | true =>
 rw [hl] at hs
 rw [Nat.beq_eq] at hl
 simp only [cond_true] at hs
 obtain ⟨⟨hI,hK⟩,hp1,τ,g1,g2,g3⟩ := lpAllF_ok hC hS rfl (by omega) (LeN.refl h.length E (N := H.length)) hS (fun j o hj hf ho => by
  rw [hD.ahead s h j hpn hj hf] at ho
  exact ⟨ho,hlt j o hj hf ho⟩) hs
 have hA1 := goodL_zip hl g1 hA
 obtain ⟨c,hc,hpay⟩ := hVC s hI h hpn hlow
 obtain ⟨v,H',sv,h',E2,r1,r2,r3,r4,r5,r6,r7⟩ := hc (E.lp D.n τ) lo 0 (D.args s) (D.heap s h) H (frFin D s h) av hpay.out g2 hA1
 unfold frFin at r7
 split at r7
 ·rename_i B hB
  obtain ⟨s',r7⟩ := r7
  obtain ⟨n0,n1⟩ := nilAll_to D.foot (B.heap s' h) D.n h'
  obtain ⟨E3,n2,n3⟩ := n1 E2 lo 0 H' r4
  have r7 : (lpAllF D.n D.foot [(sv,B.res s')] (nilAll D.foot (B.heap s' h) D.n h') (B.heap s' h) (frKeep D.foot (nilAll D.foot (B.heap s' h) D.n h') h D.n (.need (B.cond s s') .ok))).holds := r7
  have hlen := hD.len s h hpn
  have hB := qp hB
  have r2 := r2.trans r3 r5 n2
  rw [hlen] at r2
  rw [hlen] at r3
  generalize nilAll D.foot (B.heap s' h) D.n h' = h2 at *
  have r2' : LeN h.length H.length (E.lp D.n τ) E3 := by rw [hpn]; exact r2
  -- what is kept is told behind the tree
  have hkeep : (lpAllF D.n D.foot [(sv,B.res s')] h2 (B.heap s' h) (frKeep D.foot h2 h D.n (.need (B.cond s s') .ok))).holds → (frKeep D.foot h2 h D.n (.need (B.cond s s') .ok)).holds := by
   intro hh
   unfold lpAllF at hh
   cases hb : (Nat.ble D.n h2.length && Nat.ble D.n (B.heap s' h).length) with
   | false => rw [hb] at hh; exact qa1 hh
   | true =>
    rw [hb] at hh
    obtain ⟨W,h1,_⟩ := lpOsF_ok hh
    obtain ⟨τ',_,_,k3,_⟩ := lpV_ok (E := E) hC h1 (fun j j' id h _ => by rw [List.getElem?_replicate] at h; split at h <;> cases h)
    have k3 : (bif newOk D.n (B.heap s' h) τ' ((B.heap s' h).length - D.n) then frKeep D.foot h2 h D.n (.need (B.cond s s') .ok) else Tree.stuck "fr: an object that nothing leads to").holds := k3
    cases hnew : newOk D.n (B.heap s' h) τ' ((B.heap s' h).length - D.n) with
    | false => rw [hnew] at k3; exact qa1 k3
    | true => rw [hnew] at k3; exact k3
  have hk := (frKeep_ok (hkeep r7)).2
  obtain ⟨hkc,hp2,τ2,q1,q2,q3⟩ := lpAllF_ok hC hS rfl (by omega) (g3.trans (qf _) (qf _) r2') n3 (fun j o hj hf ho => by
   rw [hD.behind B hB s' h j hpn hj hf] at ho
   have e := hk j hj hf
   rw [qi,qi,ho] at e
   have e : h2[j]? = some (some o) := by
    cases hx : h2[j]? with
    | none => rw [hx] at e; cases e
    | some x => rw [hx] at e; exact congrArg some e
   exact ⟨e,hlt j o hj hf ho⟩) r7
  have hc' := (frKeep_ok hkc).1.1
  exact ⟨v,H',B.res s',B.heap s' h,E3.lp D.n τ2,r1,q3,by omega,q2,r5,q1 (sv,B.res s') List.mem_cons_self v (r6.mono n2.le),frK_ok hK B hB s' hc'⟩
 ·exact qa1 r7
end Go.Sy

/- Contracts at more names than there are; contracts of functions whose cuts are chosen. Generic: over any program. -/
namespace Go.Sy
open Go.Am
set_option linter.unusedVariables false
set_option linter.unusedSimpArgs false
variable {C : Codec} {E : Env}
theorem pad_get {h : SH C} {k i : Nat} {o : Obj C.T} (hi : (h ++ List.replicate k none)[i]? = some (some o)) : h[i]? = some (some o) := by
 rcases qm i h.length with hl | hl
 ·rwa [qg hl] at hi
 ·rw [qk hl,List.getElem?_replicate] at hi
  split at hi <;> cases hi
theorem SimH.pad {lo wlo : Nat} {h : SH C} {H : Heap} (hS : SimH E lo wlo h H) (k : Nat) : SimH E lo wlo (h ++ List.replicate k none) H :=
 ⟨fun id o hi => hS.obj id o (pad_get hi),fun id id' o o' b h1 h2 => hS.inj id id' o o' b (pad_get h1) (pad_get h2),fun b cs hf => ⟨(hS.fr b cs hf).1,fun id o hi => (hS.fr b cs hf).2 id o (pad_get hi)⟩,
  fun id hi => hS.fresh id (by rw [qo] at hi; omega),hS.low,hS.bnd,hS.own,hS.βω,by rw [qo]; have := hS.wl; omega,hS.ll⟩
def padCtr (N : Nat) (c : Ctr C) : Ctr C := fun wlo args h K => c wlo args (h ++ List.replicate (N - h.length) none) K
theorem padCtr_ok {S : AStat} {f : FuncId} {c : Ctr C} (N : Nat) (hc : CtrOk1 S f c) : CtrOk1 S f (padCtr N c) := by
 intro E lo wlo args h H K av hh hS hA
 obtain ⟨v,H',sv,h',E',r1,r2,r3,r4,r5,r6,r7⟩ := hc E lo wlo args _ H K av hh (hS.pad _) hA
 rw [qo] at r2 r3
 exact ⟨v,H',sv,h',E',r1,⟨r2.le,fun id hi => r2.old id (by omega),r2.fr,r2.own⟩,by omega,r4,r5,r6,r7⟩
def noCtr : Ctr C := fun _ _ _ _ => .stuck "no"
theorem noCtr_ok {S : AStat} {f : FuncId} : CtrOk1 (C := C) S f noCtr := fun _ _ _ _ _ _ _ _ hh => (stuck_no hh).elim
end Go.Sy

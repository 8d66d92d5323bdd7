/- Library, part 3: AmWeak, AmRound, AmInts, AmTy, SyVal, SyOp, SySim, SySim2, SyExec, SyHeap, SyEff, SyMp, SyEff2, SyEff3, SyEff4, SyQuiet, SyOps. General texts of the author of this claim: an idealised machine and a symbolic one, both proved sound over the model. -/
import Derived.Test.YtcholkmididfmaaGreatDoorLib1
import Derived.Test.YtcholkmididfmaaGreatDoorLib2
set_option linter.unusedVariables false
set_option linter.unusedSimpArgs false
/- A state may be weakened: cells that are dead say nothing any more; blocks are let go, given other numbers, or sealed for all time. At an entry that owns nothing. Generic: over any program. -/
namespace Go.Am
open Go.RowKit
def renB (τ : List Nat) (b : Nat) : Option Nat := τ.idxOf? b
def nrm (hg : Nat → Option (Option ABlk)) (τ : List Nat) : Bool → Nat → AVal → Option AVal
 | _,0,_ => none
 | top,k + 1,a =>
  match a with
  | .agg cs => (frzs (nrm hg τ top k) cs).map .agg
  | .tup cs => (frzs (nrm hg τ top k) cs).map .tup
  | .iface t v => (nrm hg τ top k v).map (.iface t)
  | .fn f x y => match frzs (nrm hg τ top k) x,frzs (nrm hg τ top k) y with
   | some x',some y' => some (.fn f x' y')
   | _,_ => none
  | .ptr b off =>
   match renB τ b with
   | some b' => if top then some (.ptr b' off) else none
   | none => match hg b with
    | some (some (.cells cs)) => (frzs (nrm hg τ false k) (cs.drop off)).map .ipt
    | _ => none
  | .sl sz b off len cap ex =>
   match renB τ b with
   | some b' => if top then some (.sl sz b' off len cap ex) else none
   | none => match hg b with
    | some (some (.cells cs)) =>
     if off + len * sz ≤ cs.length then (frzss (nrm hg τ false k) (chunk sz len (cs.drop off))).map fun rows => .list sz rows (ex && cap == len) else none
    | _ => none
  | .mapr b => match renB τ b with
   | some b' => if top then some (.mapr b') else none
   | none => none
  | a => some a
def nrmEs (f : AVal → Option AVal) : List (AVal × AVal) → Option (List (AVal × AVal))
 | [] => some []
 | (k,v) :: es => match f k,f v with
  | some k',some v' => (nrmEs f es).map ((k',v') :: ·)
  | _,_ => none
def nrmBlk (hg : Nat → Option (Option ABlk)) (τ : List Nat) : Option ABlk → Option (Option ABlk)
 | none => some none
 | some (.cells cs) => (frzs (nrm hg τ true 64) cs).map fun cs => some (.cells cs)
 | some (.mp es) => (nrmEs (nrm hg τ true 64) es).map fun es => some (.mp es)
 | some (.it s pos) => some (some (.it s pos))
 | some (.mi ..) => none
def nrmH (hg : Nat → Option (Option ABlk)) (τ : List Nat) : List Nat → Option Heap
 | [] => some []
 | b :: bs => match nrmBlk hg τ ((hg b).getD none),nrmH hg τ bs with
  | some x,some xs => some (x :: xs)
  | _,_ => none
def nrmC (c : Cx) (H : Heap) (τ : List Nat) (top : Bool) : Cx :=
 { c with
  ι := fun j => if top then (τ[j]?).bind c.ι else none
  I := fun B => c.I B ∨ ∃ b blk base,b ∉ τ ∧ H[b]? = some (some blk) ∧ c.ι b = some (B,base) }
theorem nrmC_pure (c : Cx) (H : Heap) (τ : List Nat) (top : Bool) : (nrmC c H τ top).pure = nrmC c H τ false := by
 simp [nrmC,Cx.pure]
theorem pure_nrm (c : Cx) (H : Heap) (τ : List Nat) (top : Bool) : Ext c.pure (nrmC c H τ top).pure :=
 ⟨(fun _ _ h => by cases h),rfl,(fun _ h => .inl h),fun _ _ => rfl,fun _ _ _ h => h⟩
theorem renB_some {τ : List Nat} {b j : Nat} (h : renB τ b = some j) : τ[j]? = some b := by
 unfold renB at h
 rw [List.idxOf?_eq_some_iff] at h
 obtain ⟨h1,h2,_⟩ := h
 rw [qt h1]
 congr 1
theorem renB_none {τ : List Nat} {b : Nat} (h : renB τ b = none) : b ∉ τ := by
 unfold renB at h
 rwa [List.idxOf?_eq_none_iff] at h
theorem nrm_sim {c : Cx} {H : Heap} (hR : Rel c H) (τ : List Nat) : ∀ (k : Nat) (top : Bool) (a : AVal) {b : AVal},nrm (fun b => H[b]?) τ top k a = some b → ∀ v,V c a v → V (nrmC c H τ top) b v
 | 0,_,_,_,h,_,_ => by cases h
 | k + 1,top,a,b,h,v,hv => by
  have ih := fun a b h v hv => nrm_sim hR τ k top a (b := b) h v hv
  have ih0 := fun a b h v hv => nrm_sim hR τ k false a (b := b) h v hv
  have pure0 : nrmC c H τ false = (nrmC c H τ top).pure := (nrmC_pure c H τ top).symm
  rw [pure0] at ih0
  have old : ∀ x j B base,renB τ x = some j → top = true → c.ι x = some (B,base) → (nrmC c H τ top).ι j = some (B,base) := by
   intro x j B base h1 h2 h3
   subst h2
   simp only [nrmC,if_true]
   rw [renB_some h1]
   exact h3
  unfold nrm at h
  cases a <;> simp only at h
  case agg cs =>
   rw [qd] at h
   obtain ⟨bs,h1,rfl⟩ := h
   simp only [V] at hv ⊢
   obtain ⟨vs,rfl,h2⟩ := hv
   exact ⟨vs,rfl,frzs_sim ih cs h1 vs h2⟩
  case tup cs =>
   rw [qd] at h
   obtain ⟨bs,h1,rfl⟩ := h
   simp only [V] at hv ⊢
   obtain ⟨vs,rfl,h2⟩ := hv
   exact ⟨vs,rfl,frzs_sim ih cs h1 vs h2⟩
  case iface t x =>
   rw [qd] at h
   obtain ⟨y,h1,rfl⟩ := h
   simp only [V] at hv ⊢
   obtain ⟨u,rfl,h2⟩ := hv
   exact ⟨u,rfl,ih x y h1 u h2⟩
  case fn f x y =>
   split at h
   ·rename_i x' y' h1 h2
    simp only [qa] at h
    subst h
    simp only [V] at hv ⊢
    obtain ⟨vs,us,rfl,h3,h4⟩ := hv
    exact ⟨vs,us,rfl,frzs_sim ih x h1 vs h3,frzs_sim ih y h2 us h4⟩
   ·cases h
  case ptr x off =>
   simp only [V] at hv
   obtain ⟨B,base,hi,rfl⟩ := hv
   split at h
   ·rename_i j hj
    split at h
    ·rename_i ht
     simp only [qa] at h
     subst h
     simp only [V]
     exact ⟨B,base,old x j B base hj ht hi,rfl⟩
    ·cases h
   ·rename_i hj
    split at h
    ·rename_i cs hb
     rw [qd] at h
     obtain ⟨bs,h1,rfl⟩ := h
     obtain ⟨B0,base0,h3,_,_,_,_,vs,ha,hvs⟩ := hR.blk x _ hb
     rw [hi] at h3
     simp only [qa,qe] at h3
     obtain ⟨rfl,rfl⟩ := h3
     simp only [V]
     exact ⟨B,base + off,vs.drop off,rfl,.inr ⟨x,_,base,renB_none hj,hb,hi⟩,At_drop off ha,frzs_sim ih0 _ h1 _ (Vs_drop off hvs)⟩
    ·cases h
  case sl sz x off len cap ex =>
   simp only [V] at hv
   obtain ⟨B,base,kk,o,hi,rfl,ho,g1,g2,g3,g4⟩ := hv
   split at h
   ·rename_i j hj
    split at h
    ·rename_i ht
     simp only [qa] at h
     subst h
     simp only [V]
     exact ⟨B,base,kk,o,old x j B base hj ht hi,rfl,ho,g1,g2,g3,g4⟩
    ·cases h
   ·rename_i hj
    split at h
    ·rename_i cs hb
     split at h
     ·rename_i hle
      rw [qd] at h
      obtain ⟨bs,h1,rfl⟩ := h
      obtain ⟨B0,base0,h3,_,_,_,_,vs,ha,hvs⟩ := hR.blk x _ hb
      rw [hi] at h3
      simp only [qa,qe] at h3
      obtain ⟨rfl,rfl⟩ := h3
      have hl := Vs_length hvs
      have hch := chunk_Vss (sz := sz) len (Vs_drop off hvs) (by simp; omega)
      obtain ⟨h5,h6⟩ := frzss_sim ih0 sz _ h1
      rw [chunk_length] at h5
      have hIx : (nrmC c H τ top).I B := .inr ⟨x,_,base,renB_none hj,hb,hi⟩
      simp only [V,h5]
      by_cases hk : 0 < kk
      ·have ho' := ho hk
       subst ho'
       refine ⟨⟨B,base + off,none⟩,kk,_,rfl,by omega, ?_,.inr ⟨rfl,hIx,At_take _ (At_drop off ha)⟩,h6 _ hch⟩
       intro he
       simp only [qj,beq_iff_eq] at he
       have := g3 he.1
       omega
      ·have hl0 : len = 0 := by omega
       subst hl0
       have hbs : bs = [] := qq h5
       subst hbs
       exact ⟨⟨B,o,none⟩,kk,[],rfl,by omega,(fun _ => by omega),.inl rfl,by simp [Vss]⟩
     ·cases h
    ·cases h
  case mapr x =>
   split at h
   ·rename_i j hj
    split at h
    ·rename_i ht
     simp only [qa] at h
     subst h
     simp only [V] at hv ⊢
     obtain ⟨B,h1,rfl⟩ := hv
     exact ⟨B,old x j B 0 hj ht h1,rfl⟩
    ·cases h
   ·cases h
  case ipt cs =>
   simp only [qa] at h
   subst h
   simp only [V] at hv ⊢
   obtain ⟨B,off,vs,rfl,hI,ha,hvs⟩ := hv
   exact ⟨B,off,vs,rfl,.inl hI,ha,Vs_ext (pure_nrm c H τ _) _ _ hvs⟩
  case eptr id cs =>
   simp only [qa] at h
   subst h
   simp only [V] at hv ⊢
   obtain ⟨B,o,vs,hn,e1,rfl,hI,ha,hvs,hc⟩ := hv
   exact ⟨B,o,vs,hn,e1,rfl,.inl hI,ha,Vs_ext (pure_nrm c H τ _) _ _ hvs,hc⟩
  case list sz rows ex =>
   simp only [qa] at h
   subst h
   simp only [V] at hv ⊢
   obtain ⟨a,cap,vs,rfl,h1,h2,hm,hvs⟩ := hv
   exact ⟨a,cap,vs,rfl,h1,h2,hm.imp_right fun h => ⟨h.1,.inl h.2.1,h.2.2⟩,Vss_ext (pure_nrm c H τ _) _ _ _ hvs⟩
  all_goals (simp only [qa] at h; subst h)
  all_goals (simp only [V] at hv ⊢)
  all_goals exact hv
theorem nrmEs_sim {f : AVal → Option AVal} {c c' : Cx} (hf : ∀ a b,f a = some b → ∀ v,V c a v → V c' b v) : ∀ (es : List (AVal × AVal)) {fs : List (AVal × AVal)},nrmEs f es = some fs → ∀ ms,Es c es ms → Es c' fs ms
 | [],fs,h,ms,hv => by
  simp only [nrmEs,qa] at h
  subst h
  simpa [Es] using hv
 | (k,v) :: es,fs,h,ms,hv => by
  simp only [nrmEs] at h
  split at h
  ·rename_i k' v' hk hvv
   rw [qd] at h
   obtain ⟨gs,h1,rfl⟩ := h
   simp only [Es] at hv ⊢
   obtain ⟨m,ns,rfl,h2,h3,h4⟩ := hv
   exact ⟨m,ns,rfl,hf k k' hk _ h2,hf v v' hvv _ h3,nrmEs_sim hf es h1 ns h4⟩
  ·cases h
theorem nrmH_get {H : Heap} {τ : List Nat} : ∀ {l : List Nat} {H1 : Heap},nrmH (fun b => H[b]?) τ l = some H1 → H1.length = l.length ∧ ∀ (j : Nat) (x : Option ABlk),H1[j]? = some x → ∃ b : Nat,l[j]? = some b ∧ nrmBlk (fun b => H[b]?) τ (H[b]?.getD none) = some x
 | [],H1,h => by
  simp only [nrmH,qa] at h
  subst h
  exact ⟨rfl,fun j x hx => by simp at hx⟩
 | b :: bs,H1,h => by
  simp only [nrmH] at h
  split at h
  ·rename_i x xs h1 h2
   simp only [qa] at h
   subst h
   obtain ⟨h3,h4⟩ := nrmH_get h2
   refine ⟨by simp [h3], ?_⟩
   intro j y hy
   cases j with
   | zero =>
    simp only [List.getElem?_cons_zero,qa] at hy
    subst hy
    exact ⟨b,by simp,h1⟩
   | succ j =>
    simp only [List.getElem?_cons_succ] at hy ⊢
    exact h4 j y hy
  ·cases h
theorem nrm_rel {c : Cx} {H : Heap} (hR : Rel c H) {τ : List Nat} (hτ : τ.Nodup) {H1 : Heap} (h : nrmH (fun b => H[b]?) τ τ = some H1) : Rel (nrmC c H τ true) H1 := by
 obtain ⟨hlen,hget⟩ := nrmH_get h
 have hext : Ext c.pure (nrmC c H τ true).pure := pure_nrm c H τ true
 have back : ∀ (j : Nat) (blk1 : ABlk),H1[j]? = some (some blk1) → ∃ (b : Nat) (blk : ABlk),τ[j]? = some b ∧ H[b]? = some (some blk) ∧ nrmBlk (fun b => H[b]?) τ (some blk) = some (some blk1) := by
  intro j blk1 hj
  obtain ⟨b,h1,h2⟩ := hget j _ hj
  cases hb : H[b]? with
  | none =>
   rw [hb] at h2
   simp [nrmBlk] at h2
  | some x =>
   rw [hb] at h2
   cases x with
   | none => simp [nrmBlk] at h2
   | some blk => exact ⟨b,blk,h1,hb,h2⟩
 have hι : ∀ (j b : Nat),τ[j]? = some b → (nrmC c H τ true).ι j = c.ι b := by
  intro j b hj
  simp [nrmC,hj]
 refine ⟨?_, ?_, ?_, ?_⟩
 ·intro j blk1 hj
  obtain ⟨b,blk,h1,h2,h3⟩ := back j blk1 hj
  obtain ⟨B,base,h4,h5,h6,h7⟩ := hR.blk b blk h2
  refine ⟨B,base,by rw [hι j b h1,h4], ?_,h6, ?_⟩
  ·rintro (hi | ⟨b',blk',base',hn,hb',hi'⟩)
   ·exact h5 hi
   ·have := hR.inj b b' blk blk' B base base' h2 hb' h4 hi'
    subst this
    exact hn (qp h1)
  ·cases blk with
   | cells cs =>
    simp only [nrmBlk,qd] at h3
    obtain ⟨cs1,h8,h9⟩ := h3
    simp only [qa] at h9
    subst h9
    obtain ⟨g1,g2,vs,g3,g4⟩ := h7
    have hl : cs1.length = cs.length := by
     have e1 := Vs_length g4
     have e2 := Vs_length (frzs_sim (fun a b h v hv => nrm_sim hR τ 64 true a h v hv) cs h8 vs g4)
     omega
    exact ⟨g1,by rw [hl]; exact g2,vs,g3,frzs_sim (fun a b h v hv => nrm_sim hR τ 64 true a h v hv) cs h8 vs g4⟩
   | mp es =>
    simp only [nrmBlk,qd] at h3
    obtain ⟨es1,h8,h9⟩ := h3
    simp only [qa] at h9
    subst h9
    obtain ⟨g1,ms,clock,g2,g3,g4⟩ := h7
    exact ⟨g1,ms,clock,g2,nrmEs_sim (fun a b h v hv => nrm_sim hR τ 64 true a h v hv) es h8 _ g3,g4⟩
   | it s pos =>
    simp only [nrmBlk,qa] at h3
    subst h3
    exact h7
   | mi b since seen last => simp [nrmBlk] at h3
 ·intro j j' blk blk' B base base' h1 h2 h3 h4
  obtain ⟨b,x,g1,g2,_⟩ := back j blk h1
  obtain ⟨b',x',g1',g2',_⟩ := back j' blk' h2
  rw [hι j b g1] at h3
  rw [hι j' b' g1'] at h4
  have := hR.inj b b' x x' B base base' g2 g2' h3 h4
  subst this
  have hj : j < τ.length := by
   rcases qm j τ.length with h | h
   ·exact h
   ·rw [qr h] at g1; cases g1
  exact (List.getElem?_inj hj hτ).1 (g1.trans g1'.symm)
 ·intro j hj
  have : τ[j]? = none := qr (by omega)
  simp [nrmC,this]
 ·rintro B (hB | ⟨b,blk,base,_,h1,h2⟩)
  ·exact hR.lt B hB
  ·obtain ⟨B',base',h3,_,h4,_⟩ := hR.blk b blk h1
   rw [h2] at h3
   simp only [qa,qe] at h3
   obtain ⟨rfl,rfl⟩ := h3
   exact h4
def junkBut (live : List Nat) : Nat → List AVal → List AVal
 | _,[] => []
 | i,a :: ρ => (if live.contains i then a else .junk) :: junkBut live (i + 1) ρ
theorem junkBut_sim {c : Cx} {live : List Nat} : ∀ {ρ : List AVal} {i : Nat} {vs : List Value},Vs c ρ vs → Vs c (junkBut live i ρ) vs
 | [],_,_,h => h
 | a :: ρ,i,vs,h => by
  simp only [Vs,junkBut] at h ⊢
  obtain ⟨v,us,rfl,h1,h2⟩ := h
  refine ⟨v,us,rfl, ?_,junkBut_sim h2⟩
  split
  ·exact h1
  ·simp [V]
def norm (live τ : List Nat) (ρ : List AVal) (hg : Nat → Option (Option ABlk)) : Option (List AVal × Heap) :=
 if τ.Nodup then
  match frzs (nrm hg τ true 64) (junkBut live 0 ρ),nrmH hg τ τ with
  | some ρ',some H' => some (ρ',H')
  | _,_ => none
 else none
structure Ent.Bare (E : Ent) : Prop where
 H : E.H = []
 lo : E.lo = 0
 ι : ∀ b,E.c.ι b = none
theorem norm_weak {S : AStat} {E : Ent} (hE : E.Bare) {live τ : List Nat} {ρ : List AVal} {H : Heap} {ρ' : List AVal} {H' : Heap} (h : norm live τ ρ (fun b => H[b]?) = some (ρ',H')) : Weak S E ρ H ρ' H' := by
 rintro tmps w ⟨c,rfl,hR,hG,hT,hL,hv⟩
 unfold norm at h
 split at h
 ·rename_i hτ
  split at h
  ·rename_i ρ1 H1 h1 h2
   simp only [qa,qe] at h
   obtain ⟨rfl,rfl⟩ := h
   have hno : ∀ (b : Nat) (blk : ABlk),E.H[b]? ≠ some (some blk) := by
    intro b blk e
    rw [hE.H] at e
    simp at e
   have hExt : Ext E.c (nrmC c H τ true) := ⟨(fun b x hx => by rw [hE.ι b] at hx; cases hx),hT.ext.θ,fun B hB => .inl (hT.ext.I B hB),hT.ext.kept,hT.ext.shape⟩
   refine ⟨nrmC c H τ true,rfl,nrm_rel hR hτ h2, ?_,⟨hExt,hT.size,hT.frame, ?_, ?_,hT.os,hT.tape,hT.output⟩,⟨?_, ?_, ?_⟩, ?_⟩
   ·refine ⟨fun g cs hg => ?_,fun p hp => ⟨.inl (hG.t p hp).1,(hG.t p hp).2⟩⟩
    have hq := hG.v g cs hg
    simp only [V] at hq ⊢
    obtain ⟨B,off,vs,e,hI,ha,hvs⟩ := hq
    exact ⟨B,off,vs,e,.inl hI,ha,Vs_ext (pure_nrm c H τ true) _ _ hvs⟩
   ·rintro B hB ⟨j,blk,base,hj,hi⟩
    obtain ⟨B',base',g1,g2,g3,_⟩ := (nrm_rel hR hτ h2).blk j blk hj
    rw [hi] at g1
    simp only [qa,qe] at g1
    obtain ⟨rfl,rfl⟩ := g1
    obtain ⟨hlen,hget⟩ := nrmH_get h2
    obtain ⟨b,k1,k2⟩ := hget j _ hj
    cases hb : H[b]? with
    | none => rw [hb] at k2; simp [nrmBlk] at k2
    | some x =>
     cases x with
     | none => rw [hb] at k2; simp [nrmBlk] at k2
     | some blk0 =>
      have : c.ι b = some (B,base) := by simpa [nrmC,k1] using hi
      exact hT.img B hB ⟨b,blk0,base,hb,this⟩
   ·rintro B hB (hi | ⟨b,blk,base,_,g1,g2⟩)
    ·exact hT.imm B hB hi
    ·exact .inr (hT.img B hB ⟨b,blk,base,g1,g2⟩)
   ·intro b blk hb
    rw [hE.lo] at hb
    omega
   ·intro b hb
    rw [hE.H] at hb
    simp at hb
   ·rw [hE.H]
    simp
   ·exact frzs_sim (fun a b h v hv => nrm_sim hR τ 64 true a h v hv) _ h1 _ (junkBut_sim hv)
  ·cases h
 ·cases h
end Go.Am

/- Pieces of code run over trees, behind them what is dead let go; a loop of such rounds. At an entry that owns nothing. Generic: over any program. -/
namespace Go.Am
open Go.RowKit
noncomputable def Hp.ofL : Heap → Hp → Option Hp
 | [],h => some h
 | x :: xs,h => (h.push x).bind (Hp.ofL xs)
theorem Hp.ofL_ok : ∀ (H : Heap) {h h' : Hp},h.Ok → Hp.ofL H h = some h' → h'.Ok ∧ h'.toL = h.toL ++ H
 | [],h,h',ho,e => by
  simp only [Hp.ofL,qa] at e
  subst e
  exact ⟨ho,by simp⟩
 | x :: xs,h,h',ho,e => by
  simp only [Hp.ofL,Option.bind_eq_some_iff] at e
  obtain ⟨h1,e1,e2⟩ := e
  obtain ⟨k1,k2⟩ := Hp.push_ok ho e1
  obtain ⟨k3,k4⟩ := Hp.ofL_ok xs k1 e2
  exact ⟨k3,by rw [k4,k2,List.append_assoc]; rfl⟩
noncomputable def piecesF (S : AStat) (HT : FuncId → Option HookT) (N : Nat) : List Code → Rg → Hp → Option (AExit × Rg × Hp)
 | [],r,h => some (.normal,r,h)
 | c :: l,r,h => match execF S HT N 0 c r h with
  | some (.normal,r',h') => piecesF S HT N l r' h'
  | x => x
theorem piecesF_ok {S : AStat} {HT : FuncId → Option HookT} (hH : HookSim S HT) (N : Nat) : ∀ (l : List Code) {r : Rg} {h : Hp} {x : AExit} {r' : Rg} {h' : Hp},r.Ok → h.Ok → piecesF S HT N l r h = some (x,r',h') →
 r'.Ok ∧ h'.Ok ∧ execL S N 0 l r.toL h.toL = some (x,r'.toL,h'.toL)
 | [],r,h,x,r',h',hr,ho,e => by
  simp only [piecesF,qa,qe] at e
  obtain ⟨rfl,rfl,rfl⟩ := e
  exact ⟨hr,ho,rfl⟩
 | c :: l,r,h,x,r',h',hr,ho,e => by
  simp only [piecesF] at e
  split at e
  ·rename_i r1 h1 e1
   obtain ⟨k1,k2,k3⟩ := execF_ok hH N _ _ _ _ _ _ _ hr ho e1
   obtain ⟨g1,g2,g3⟩ := piecesF_ok hH N l k1 k2 e
   exact ⟨g1,g2,by simp only [execL,k3,g3]⟩
  ·rename_i hne
   obtain ⟨k1,k2,k3⟩ := execF_ok hH N _ _ _ _ _ _ _ hr ho e
   refine ⟨k1,k2, ?_⟩
   simp only [execL,k3]
   cases x with
   | normal => exact (hne _ _ e).elim
   | exit i => rfl
   | ret => rfl
abbrev StA := List AVal × Heap
noncomputable def roundF (S : AStat) (HT : FuncId → Option HookT) (N : Nat) (l : List Code) (live τ : List Nat) (st : StA) : Option (AExit × StA) :=
 bif Nat.ble st.1.length 512 then
  (Hp.ofL st.2 Hp.empty).bind fun h => (piecesF S HT N l (Rg.frame st.1 st.1.length) h).bind fun y => (norm live τ y.2.1.toL y.2.2.get).map fun z => (y.1,z)
 else none
theorem roundF_ok {S : AStat} {HT : FuncId → Option HookT} (hH : HookSim S HT) {N : Nat} {l : List Code} {live τ : List Nat} {st : StA} {x : AExit} {st' : StA} (e : roundF S HT N l live τ st = some (x,st')) :
 ∃ ρ' H',execL S N 0 l st.1 st.2 = some (x,ρ',H') ∧ ∀ E : Ent,E.Bare → Weak S E ρ' H' st'.1 st'.2 := by
 unfold roundF at e
 cases hc : Nat.ble st.1.length 512 with
 | false => rw [hc] at e; cases e
 | true =>
  rw [hc] at e
  simp only [cond_true,Option.bind_eq_some_iff,qd] at e
  obtain ⟨h,e1,⟨x',r',h'⟩,e2,⟨ρ1,H1⟩,e3,e4⟩ := e
  simp only [qe] at e4
  obtain ⟨rfl,rfl⟩ := e4
  obtain ⟨k1,k2⟩ := Hp.ofL_ok _ Hp.empty_ok e1
  obtain ⟨g1,g2,g3⟩ := piecesF_ok hH N l (frame_ok st.1 st.1.length (Nat.le_of_ble_eq_true hc)) k1 e2
  rw [frame_toL _ _ (Nat.le_of_ble_eq_true hc) (qf _),Nat.sub_self,List.replicate_zero,List.append_nil,k2,Hp.empty_toL,List.nil_append] at g3
  rw [getF_eq g2] at e3
  exact ⟨_,_,g3,fun E hE => norm_weak hE e3⟩
def roundA (S : AStat) (N : Nat) (l : List Code) (live τ : List Nat) (st : StA) : Option (AExit × StA) :=
 (execL S N 0 l st.1 st.2).bind fun y => (norm live τ y.2.1 (fun b => y.2.2[b]?)).map fun z => (y.1,z)
theorem roundA_ok {S : AStat} {N : Nat} {l : List Code} {live τ : List Nat} {st : StA} {x : AExit} {st' : StA} (e : roundA S N l live τ st = some (x,st')) :
 ∃ ρ' H',execL S N 0 l st.1 st.2 = some (x,ρ',H') ∧ ∀ E : Ent,E.Bare → Weak S E ρ' H' st'.1 st'.2 := by
 unfold roundA at e
 simp only [Option.bind_eq_some_iff,qd] at e
 obtain ⟨⟨x',ρ',H'⟩,e2,⟨ρ1,H1⟩,e3,e4⟩ := e
 simp only [qe] at e4
 obtain ⟨rfl,rfl⟩ := e4
 exact ⟨_,_,e2,fun E hE => norm_weak hE e3⟩
theorem WpL.run {S : AStat} (hS : StatOk S) {E : Ent} {N : Nat} {l2 : List Code} {Q : OutQ} : ∀ (l : List Code) {ρ : List AVal} {H : Heap} {x : AExit} {ρ' : List AVal} {H' : Heap},execL S N E.lo l ρ H = some (x,ρ',H') →
 (x = .normal ∧ WpL S E l2 ρ' H' Q) ∨ (x ≠ .normal ∧ Q x ρ' H') → WpL S E (l ++ l2) ρ H Q
 | [],ρ,H,x,ρ',H',e,h => by
  simp only [execL,qa,qe] at e
  obtain ⟨rfl,rfl,rfl⟩ := e
  rcases h with ⟨_,h⟩ | ⟨h,_⟩
  ·exact h
  ·exact (h rfl).elim
 | c :: l,ρ,H,x,ρ',H',e,h => by
  simp only [execL] at e
  split at e
  ·rename_i ρ1 H1 e1
   exact Wp.run hS ⟨N,e1⟩ (.inl ⟨rfl,WpL.run hS l e h⟩)
  ·rename_i hne
   cases x with
   | normal => exact (hne _ _ e).elim
   | exit i =>
    rcases h with ⟨h,_⟩ | ⟨h,h'⟩
    ·cases h
    ·exact Wp.run hS ⟨N,e⟩ (.inr ⟨h,h'⟩)
   | ret =>
    rcases h with ⟨h,_⟩ | ⟨h,h'⟩
    ·cases h
    ·exact Wp.run hS ⟨N,e⟩ (.inr ⟨h,h'⟩)
theorem WpL.round {S : AStat} (hS : StatOk S) {HT : FuncId → Option HookT} (hH : HookSim S HT) {E : Ent} (hE : E.Bare) {N : Nat} {l l2 : List Code} {live τ : List Nat} {st st' : StA} {Q : OutQ}
 (e : roundF S HT N l live τ st = some (.normal,st')) (h : WpL S E l2 st'.1 st'.2 Q) : WpL S E (l ++ l2) st.1 st.2 Q := by
 obtain ⟨ρ',H',h1,h2⟩ := roundF_ok hH e
 rw [← hE.lo] at h1
 exact WpL.run hS l h1 (.inl ⟨rfl,WpL.weak (h2 E hE) h⟩)
theorem WpL.last {S : AStat} (hS : StatOk S) {E : Ent} (hE : E.Bare) {N : Nat} {l : List Code} {live τ : List Nat} {st st' : StA} {Q : OutQ}
 (e : roundA S N l live τ st = some (.ret,st')) (h : Q .ret st'.1 st'.2) : WpL S E l st.1 st.2 (fun x ρ H => ∃ ρ1 H1,Weak S E ρ H ρ1 H1 ∧ Q x ρ1 H1) := by
 obtain ⟨ρ',H',h1,h2⟩ := roundA_ok e
 rw [← hE.lo] at h1
 have := WpL.run (l2 := []) (Q := fun x ρ H => ∃ ρ1 H1,Weak S E ρ H ρ1 H1 ∧ Q x ρ1 H1) hS l h1 (.inr ⟨by simp,_,_,h2 E hE,h⟩)
 rwa [List.append_nil] at this
theorem Wp.rounds {S : AStat} (hS : StatOk S) {HT : FuncId → Option HookT} (hH : HookSim S HT) {E : Ent} (hE : E.Bare) {N : Nat} {p : Code} {live : List Nat} {τs : Nat → List Nat} {st : Nat → StA} {n : Nat} {i : Nat} {stE : StA}
 (h : ∀ k,k < n → roundF S HT N [p] live (τs k) (st k) = some (.normal,st (k + 1))) {liveE τE : List Nat} (he : roundF S HT N [p] liveE τE (st n) = some (.exit i,stE)) {Q : OutQ}
 (hQ : ∀ ρ H,Weak S E ρ H stE.1 stE.2 → Q (.exit i) ρ H) : Wp S E (.loop p) (st 0).1 (st 0).2 Q := by
 refine Wp.loop (σ := Nat) (I := fun k => k ≤ n) (ρs := fun k => (st k).1) (Hs := fun k => (st k).2) (m := fun k => n - k) ?_ (Nat.zero_le n)
 intro k hk
 have one : ∀ {ρ : List AVal} {H : Heap} {x : AExit} {ρ' : List AVal} {H' : Heap},execL S N 0 [p] ρ H = some (x,ρ',H') → execA S N 0 p ρ H = some (x,ρ',H') := by
  intro ρ H x ρ' H' e
  simp only [execL] at e
  split at e
  ·rename_i e1
   rw [e1]
   exact e
  ·exact e
 rcases qm k n with hlt | hge
 ·obtain ⟨ρ',H',h1,h2⟩ := roundF_ok hH (h k hlt)
  exact Wp.run hS ⟨N,by rw [hE.lo]; exact one h1⟩ (.inl ⟨rfl,k + 1,hlt,by omega,h2 E hE⟩)
 ·obtain rfl : k = n := by omega
  obtain ⟨ρ',H',h1,h2⟩ := roundF_ok hH he
  exact Wp.run hS ⟨N,by rw [hE.lo]; exact one h1⟩ (.inr ⟨by simp,hQ _ _ (h2 E hE)⟩)
theorem bareEnt {c : Cx} (hR : Rel c []) : (Ent.mk 0 c []).Bare := ⟨rfl,rfl,fun b => hR.fresh b (Nat.zero_le _)⟩
end Go.Am

/- Slices of numbers, and of slices of numbers, as they lie in a world; how they are read off an idealised memory. Generic: over any program. -/
namespace Go.Am
open Go.RowKit
def intsOf : List (List AVal) → Option (List Int)
 | [] => some []
 | [.int .i64 n] :: r => (intsOf r).map (n :: ·)
 | _ => none
def listsOf (f : AVal → Option (List Int)) : List (List AVal) → Option (List (List Int))
 | [] => some []
 | [v] :: r => match f v,listsOf f r with
  | some l,some ls => some (l :: ls)
  | _,_ => none
 | _ => none
def rowsN (hg : HGet) : AVal → Option (List (List AVal))
 | .str _ => none
 | x => rowsG hg 1 x
def intsG (hg : HGet) (x : AVal) : Option (List Int) := (rowsN hg x).bind intsOf
def listsG (hg : HGet) (x : AVal) : Option (List (List Int)) := (rowsN hg x).bind (listsOf (intsG hg))
def IntsAt (w : World) (v : Value) (l : List Int) : Prop :=
 ∃ so cap,v = .slice so l.length cap ∧ (l ≠ [] → ∃ B o,so = some ⟨B,o,none⟩ ∧ B < w.heap.size ∧ At w B o (l.map (Value.int .i64)))
def ListsAt (w : World) (v : Value) (ls : List (List Int)) : Prop :=
 ∃ so cap,v = .slice so ls.length cap ∧ (ls ≠ [] → ∃ B o us,so = some ⟨B,o,none⟩ ∧ B < w.heap.size ∧ At w B o us ∧ us.length = ls.length ∧ ∀ (j : Nat) u l,us[j]? = some u → ls[j]? = some l → IntsAt w u l)
theorem At.below {w w' : World} (hb : Below w.heap.size w w') {B o : Nat} {us : List Value} (hB : B < w.heap.size) (h : At w B o us) : At w' B o us := h.of_block (hb.block B hB)
theorem IntsAt.below {w w' : World} (hb : Below w.heap.size w w') {v : Value} {l : List Int} (h : IntsAt w v l) : IntsAt w' v l := by
 obtain ⟨so,cap,e,h⟩ := h
 refine ⟨so,cap,e,fun hl => ?_⟩
 obtain ⟨B,o,h1,h2,h3⟩ := h hl
 exact ⟨B,o,h1,qu h2 hb.size,h3.below hb h2⟩
theorem ListsAt.below {w w' : World} (hb : Below w.heap.size w w') {v : Value} {ls : List (List Int)} (h : ListsAt w v ls) : ListsAt w' v ls := by
 obtain ⟨so,cap,e,h⟩ := h
 refine ⟨so,cap,e,fun hl => ?_⟩
 obtain ⟨B,o,us,h1,h2,h3,h4,h5⟩ := h hl
 exact ⟨B,o,us,h1,qu h2 hb.size,h3.below hb h2,h4,fun j u l hu hl => (h5 j u l hu hl).below hb⟩
theorem intsOf_Vs {c : Cx} : ∀ {rows : List (List AVal)} {l : List Int} {us : List Value},intsOf rows = some l → Vs c rows.flatten us → us = l.map (Value.int .i64) ∧ rows.length = l.length
 | [],l,us,h,hv => by
  simp only [intsOf,qa] at h
  subst h
  simp only [List.flatten_nil,Vs] at hv
  exact ⟨by simpa using hv,rfl⟩
 | r :: rows,l,us,h,hv => by
  unfold intsOf at h
  split at h
  ·rename_i e; cases e
  ·rename_i n r' e
   simp only [List.cons.injEq] at e
   obtain ⟨rfl,rfl⟩ := e
   rw [qd] at h
   obtain ⟨l',h1,rfl⟩ := h
   simp only [List.flatten_cons,List.cons_append,List.nil_append,Vs,V] at hv
   obtain ⟨v,us',rfl,rfl,hv⟩ := hv
   obtain ⟨e1,e2⟩ := intsOf_Vs h1 hv
   exact ⟨by rw [e1]; rfl,by simp [e2]⟩
  ·cases h
theorem rowsN_at {c : Cx} {H : Heap} (hR : Rel c H) {x : AVal} {rows : List (List AVal)} {v : Value} (h : rowsN (fun b => H[b]?) x = some rows) (hv : V c x v) :
 ∃ so cap,v = .slice so rows.length cap ∧ (rows ≠ [] → ∃ B o us,so = some ⟨B,o,none⟩ ∧ B < c.w.heap.size ∧ At c.w B o us ∧ Vs c rows.flatten us ∧ us.length = rows.length) := by
 cases x with
 | str s => cases h
 | nils =>
  simp only [rowsN,rowsG,qa] at h
  subst h
  simp only [V] at hv
  exact ⟨none,0,hv,fun h => absurd rfl h⟩
 | list sz rws ex =>
  simp only [rowsN,rowsG] at h
  split at h
  ·rename_i hs
   subst hs
   simp only [qa] at h
   subst h
   simp only [V] at hv
   obtain ⟨a,cap,vs,rfl,_,_,hm,hvs⟩ := hv
   refine ⟨some a,cap,rfl,fun hne => ?_⟩
   rcases hm with hm | ⟨h1,h2,h3⟩
   ·exact absurd hm hne
   ·obtain ⟨ab,ao,asp⟩ := a
    simp only at h1 h2 h3
    subst h1
    have hl := Vss_length hvs
    exact ⟨ab,ao,vs,rfl,hR.lt _ h2,h3,Vs_ext (Ext.of_pure c) _ _ (Vs_flat hvs),by omega⟩
  ·cases h
 | sl sz b off len cap ex =>
  simp only [rowsN,rowsG] at h
  split at h
  ·rename_i hs
   subst hs
   split at h
   ·rename_i cs hb
    split at h
    ·rename_i hle
     simp only [qa] at h
     subst h
     simp only [V] at hv
     obtain ⟨B,base,k,o,hi,rfl,h0,h1,h2,_,_⟩ := hv
     rw [chunk_length]
     refine ⟨_,k,rfl,fun hne => ?_⟩
     have hlen : 0 < len := by
      rcases Nat.eq_zero_or_pos len with h | h
      ·subst h; exact absurd rfl hne
      ·exact h
     obtain rfl := h0 (by omega)
     obtain ⟨B',base',g1,_,g3,_,_,vs,ha,hvs⟩ := hR.blk b _ hb
     rw [hi] at g1
     simp only [qa,qe] at g1
     obtain ⟨rfl,rfl⟩ := g1
     have hl := Vs_length hvs
     have hch := chunk_Vss (sz := 1) len (Vs_drop off hvs) (by simp; omega)
     have hf := Vs_flat hch
     refine ⟨B,_,_,rfl,g3,At_take _ (At_drop off ha),hf, ?_⟩
     simp only [List.length_take,List.length_drop]
     omega
    ·cases h
   ·cases h
  ·cases h
 | _ => simp [rowsN,rowsG] at h
theorem intsG_at {c : Cx} {H : Heap} (hR : Rel c H) {x : AVal} {l : List Int} {v : Value} (h : intsG (fun b => H[b]?) x = some l) (hv : V c x v) : IntsAt c.w v l := by
 unfold intsG at h
 rw [Option.bind_eq_some_iff] at h
 obtain ⟨rows,h1,h2⟩ := h
 obtain ⟨so,cap,rfl,h3⟩ := rowsN_at hR h1 hv
 have hlen : rows.length = l.length := by
  clear h3 h1 hv
  induction rows generalizing l with
  | nil => simp only [intsOf,qa] at h2; subst h2; rfl
  | cons r rows ih =>
   unfold intsOf at h2
   split at h2
   ·rename_i e; cases e
   ·rename_i n r' e
    simp only [List.cons.injEq] at e
    obtain ⟨rfl,rfl⟩ := e
    rw [qd] at h2
    obtain ⟨l',h3,rfl⟩ := h2
    simp [ih h3]
   ·cases h2
 refine ⟨so,cap,by rw [hlen],fun hl => ?_⟩
 obtain ⟨B,o,us,e,hB,ha,hvs,_⟩ := h3 (by rintro rfl; simp at hlen; exact hl (qq (by simpa using hlen.symm)))
 obtain ⟨rfl,_⟩ := intsOf_Vs h2 hvs
 exact ⟨B,o,e,hB,ha⟩
theorem listsOf_at {c : Cx} {H : Heap} (hR : Rel c H) : ∀ {rows : List (List AVal)} {ls : List (List Int)} {us : List Value},listsOf (intsG fun b => H[b]?) rows = some ls → Vs c rows.flatten us →
 rows.length = ls.length ∧ us.length = ls.length ∧ ∀ (j : Nat) u l,us[j]? = some u → ls[j]? = some l → IntsAt c.w u l
 | [],ls,us,h,hv => by
  simp only [listsOf,qa] at h
  subst h
  simp only [List.flatten_nil,Vs] at hv
  subst hv
  exact ⟨rfl,rfl,fun j u l h => by simp at h⟩
 | r :: rows,ls,us,h,hv => by
  unfold listsOf at h
  split at h
  ·rename_i e; cases e
  ·rename_i v r' e
   simp only [List.cons.injEq] at e
   obtain ⟨rfl,rfl⟩ := e
   split at h
   ·rename_i l ls' h1 h2
    simp only [qa] at h
    subst h
    simp only [List.flatten_cons,List.cons_append,List.nil_append,Vs] at hv
    obtain ⟨v,us',rfl,hv0,hv⟩ := hv
    obtain ⟨e1,e2,e3⟩ := listsOf_at hR h2 hv
    refine ⟨by simp [e1],by simp [e2],fun j u l hu hl => ?_⟩
    cases j with
    | zero =>
     simp only [List.getElem?_cons_zero,qa] at hu hl
     subst hu hl
     exact intsG_at hR h1 hv0
    | succ j =>
     simp only [List.getElem?_cons_succ] at hu hl
     exact e3 j u l hu hl
   ·cases h
  ·cases h
theorem listsOf_len {f : AVal → Option (List Int)} : ∀ {rows : List (List AVal)} {ls : List (List Int)},listsOf f rows = some ls → rows.length = ls.length
 | [],ls,h => by
  simp only [listsOf,qa] at h
  subst h
  rfl
 | r :: rows,ls,h => by
  unfold listsOf at h
  split at h
  ·rename_i e; cases e
  ·rename_i v r' e
   simp only [List.cons.injEq] at e
   obtain ⟨rfl,rfl⟩ := e
   split at h
   ·rename_i l ls' h1 h2
    simp only [qa] at h
    subst h
    simp [listsOf_len h2]
   ·cases h
  ·cases h
theorem listsG_at {c : Cx} {H : Heap} (hR : Rel c H) {x : AVal} {ls : List (List Int)} {v : Value} (h : listsG (fun b => H[b]?) x = some ls) (hv : V c x v) : ListsAt c.w v ls := by
 unfold listsG at h
 rw [Option.bind_eq_some_iff] at h
 obtain ⟨rows,h1,h2⟩ := h
 obtain ⟨so,cap,rfl,h3⟩ := rowsN_at hR h1 hv
 have hlen := listsOf_len h2
 refine ⟨so,cap,by rw [hlen],fun hl => ?_⟩
 obtain ⟨B,o,us,e,hB,ha,hvs,_⟩ := h3 (by rintro rfl; simp at hlen; exact hl (qq (by simpa using hlen.symm)))
 obtain ⟨_,h5,h6⟩ := listsOf_at hR h2 hvs
 exact ⟨B,o,us,e,hB,ha,h5,h6⟩
end Go.Am

/- What a law's arguments are, read by their types: as idealised values. Generic: over any program. -/
namespace Go.Am
open Go.RowKit
inductive Ty where
 | bool
 | int (k : IntKind)
 | str
 | slice (e : Ty)
 | row (fs : List Ty)
mutual
def Ty.size : Ty → Nat
 | .row fs => sizes fs
 | .bool => 1
 | .int _ => 1
 | .str => 1
 | .slice _ => 1
def sizes : List Ty → Nat
 | [] => 0
 | t :: ts => t.size + sizes ts
end
mutual
def Ty.Is : Ty → List AVal → Prop
 | .bool,cs => ∃ b,cs = [.bool b]
 | .int k,cs => ∃ n,cs = [.int k n] ∧ k.min ≤ n ∧ n ≤ k.max
 | .str,cs => ∃ s : List UInt8,cs = [.str s] ∧ s.length ≤ maxLen
 | .slice e,cs => cs = [.nils] ∨ ∃ rows ex,cs = [.list e.size rows ex] ∧ rows.length ≤ maxLen ∧ ∀ r ∈ rows,e.Is r
 | .row fs,cs => IsL fs cs
def IsL : List Ty → List AVal → Prop
 | [],cs => cs = []
 | t :: ts,cs => ∃ a b,cs = a ++ b ∧ t.Is a ∧ IsL ts b
end
mutual
def Ty.ok (P : Program) : Ty → TypeId → Bool
 | .bool,t => match P.underlying t with | some .bool => true | _ => false
 | .int k,t => match P.underlying t with | some (.int k') => decide (k' = k) | _ => false
 | .str,t => match P.underlying t with | some .string => true | _ => false
 | .slice e,t => match P.underlying t with | some (.slice u) => e.ok P u && P.cellsOf u == e.size && Nat.blt 0 e.size | _ => false
 | .row fs,t =>
  match P.underlying t with
  | some (.struct gs) => P.cellsOf t == sizes fs && okL P fs (gs.toList.map fun g => (g.type,g.offset)) 0
  | some (.array n e) => P.cellsOf t == sizes fs && okL P fs ((List.range n).map fun i => (e,i * P.cellsOf e)) 0
  | _ => false
def okL (P : Program) : List Ty → List (TypeId × Nat) → Nat → Bool
 | [],[],_ => true
 | t :: ts,u :: us,o => t.ok P u.1 && u.2 == o && P.cellsOf u.1 == t.size && okL P ts us (o + t.size)
 | [],_ :: _,_ => false
 | _ :: _,[],_ => false
end
theorem addr_add_add (a : Addr) (m n : Nat) : (a.add m).add n = a.add (m + n) := by
 unfold Addr.add
 by_cases hm : m = 0
 ·subst hm; simp
 ·by_cases hn : n = 0
  ·subst hn; simp
  ·have : m + n ≠ 0 := by omega
   simp [hm,hn,Nat.add_assoc]
section
variable {P : Program} {H : Type} {enc : TypeId × Value → H} {W : World} {θ : List (Nat × Nat)} {sp : Nat → Bool} {held : Bool}
theorem cell_lt {a : Addr} {v : Value} (h : W.cell? a = some v) : a.spot = none ∧ a.block < W.heap.size := by
 unfold World.cell? at h
 split at h
 ·rename_i hb
  split at h
  ·cases h
  ·rename_i hs
   refine ⟨by simpa using hs, ?_⟩
   rcases qm a.block W.heap.size with h1 | h1
   ·exact h1
   ·rw [Array.getElem?_eq_none h1] at hb; cases hb
 ·cases h
theorem rows_reads {e : TypeId} {sz : Nat} {Q : List AVal → Prop} {a : Addr} {len m : Nat}
 (ih : ∀ cs x,DataW.trod enc P W 0 sp held m e cs = some x → ∃ as,Vs (cx0 W θ) as cs ∧ Q as)
 (h : ∀ i,i < len → ∃ y,(W.cells? 0 (a.add (i * sz)) sz).bind (DataW.trod enc P W 0 sp held m e) = some y) :
 ∀ n i,i + n = len → ∃ rows vs,rows.length = n ∧ Vss (cx0 W θ) sz rows vs ∧ (∀ r ∈ rows,Q r) ∧ ∀ j v,vs[j]? = some v → W.cell? (a.add (i * sz + j)) = some v := by
 intro n
 induction n with
 | zero => intro i _; exact ⟨[],[],rfl,by simp [Vss],by simp,by simp⟩
 | succ n ihn =>
  intro i hi
  obtain ⟨rows,vs,h1,h2,h3,h4⟩ := ihn (i + 1) (by omega)
  obtain ⟨y,hy⟩ := h i (by omega)
  rw [Option.bind_eq_some_iff] at hy
  obtain ⟨cs,hc,ht⟩ := hy
  obtain ⟨_,hl,hcell⟩ := World.cells?_some hc
  obtain ⟨as,h5,h6⟩ := ih cs y ht
  refine ⟨as :: rows,cs ++ vs,by simp [h1], ?_, ?_, ?_⟩
  ·simp only [Vss]
   exact ⟨cs,vs,rfl,hl,h5,h2⟩
  ·intro r hr
   rcases List.mem_cons.1 hr with rfl | hr
   ·exact h6
   ·exact h3 r hr
  ·intro j v hj
   rcases qm j sz with hlt | hge
   ·rw [qg (by omega)] at hj
    rw [← addr_add_add,hcell j hlt,hj]
   ·rw [qk (by omega),hl] at hj
    have := h4 (j - sz) v hj
    rw [show i * sz + j = (i + 1) * sz + (j - sz) by rw [Nat.add_mul]; omega]
    exact this
mutual
theorem ty_reads : ∀ (ty : Ty) {fuel : Nat} {t : TypeId} {cs : List Value} {x : DataW H × List MemPlace},ty.ok P t = true → DataW.trod enc P W 0 sp held fuel t cs = some x →
 ∃ as,Vs (cx0 W θ) as cs ∧ ty.Is as ∧ as.length = ty.size
 | .bool,fuel,t,cs,x,ho,h => by
  simp only [Ty.ok] at ho
  split at ho
  ·rename_i ht
   obtain ⟨b,rfl,_⟩ := DataW.trod_bool ht h
   exact ⟨[.bool b],by simp [Vs,V],⟨b,rfl⟩,rfl⟩
  ·cases ho
 | .int k,fuel,t,cs,x,ho,h => by
  simp only [Ty.ok] at ho
  split at ho
  ·rename_i k' ht
   simp only [decide_eq_true_eq] at ho
   subst ho
   obtain ⟨n,rfl,_,hw⟩ := DataW.trod_int ht h
   simp only [Lit.wf,qj,decide_eq_true_eq] at hw
   exact ⟨[.int k' n],by simp [Vs,V],⟨n,rfl,hw⟩,rfl⟩
  ·cases ho
 | .str,fuel,t,cs,x,ho,h => by
  simp only [Ty.ok] at ho
  split at ho
  ·rename_i ht
   obtain ⟨s,rfl,_,hs⟩ := DataW.trod_string ht h
   refine ⟨[.str s.data.toList],by simp [Vs,V],⟨_,rfl, ?_⟩,rfl⟩
   have : s.data.toList.length = s.size := Array.length_toList
   omega
  ·cases ho
 | .slice e,fuel,t,cs,x,ho,h => by
  simp only [Ty.ok] at ho
  split at ho
  ·rename_i u ht
   simp only [qj,beq_iff_eq] at ho
   obtain ⟨⟨ho,hsz⟩,hpos⟩ := ho
   rcases DataW.trod_slice ht h with ⟨rfl,_⟩ | ⟨a,len,cap,elems,rest,m,rfl,rfl,_,_,hlc,hcm,hel,hall,_⟩
   ·exact ⟨[.nils],by simp [Vs,V],.inl rfl,rfl⟩
   ·obtain ⟨rows,vs,h1,h2,h3,h4⟩ := rows_reads (θ := θ) (Q := e.Is) (a := a) (len := len) (sz := P.cellsOf u) (fun cs x hx => by
     obtain ⟨as,g1,g2,_⟩ := ty_reads e ho hx
     exact ⟨as,g1,g2⟩) (fun i hi => ⟨elems[i],by rw [hall i hi]; exact qt (by omega)⟩) len 0 (by omega)
    subst h1
    refine ⟨[.list e.size rows (decide (cap = rows.length))], ?_,.inr ⟨rows,_,rfl,by omega,h3⟩,rfl⟩
    simp only [Vs]
    refine ⟨_,[],rfl, ?_,rfl⟩
    simp only [V]
    rw [← hsz]
    refine ⟨a,cap,vs,rfl,hlc,by simp, ?_,h2⟩
    cases rows with
    | nil => exact .inl rfl
    | cons r rows =>
     right
     have hne : ∃ v,vs[0]? = some v := by
      have := Vss_length h2
      have hp : 0 < e.size := by simpa [Nat.blt_eq] using hpos
      simp only [qn,Nat.add_mul,hsz] at this
      exact ⟨vs[0],qt (by omega)⟩
     obtain ⟨v,hv⟩ := hne
     have h0 := h4 0 v hv
     simp only [Nat.zero_mul,Nat.zero_add] at h0
     have hs := cell_lt h0
     have ha0 : a.add 0 = a := by simp [Addr.add]
     rw [ha0] at hs
     refine ⟨hs.1,hs.2,fun j v hj => ?_⟩
     have := h4 j v hj
     simp only [Nat.zero_mul,Nat.zero_add] at this
     obtain ⟨B,o,s⟩ := a
     obtain rfl : s = none := hs.1
     rw [add_plain] at this
     exact this
  ·cases ho
 | .row fs,fuel,t,cs,x,ho,h => by
  simp only [Ty.ok] at ho
  split at ho
  ·rename_i gs ht
   simp only [qj,beq_iff_eq] at ho
   obtain ⟨xs,n,rfl,_,hl,hx,hall⟩ := DataW.trod_struct ht h
   have := tys_reads fs (cs := cs) (fuel := n) ho.2 (fun i u hu => by
    rw [List.getElem?_map,qd] at hu
    obtain ⟨f,hf,rfl⟩ := hu
    rw [Array.getElem?_toList] at hf
    have hi : i < xs.length := by
     rw [hx]
     rcases qm i gs.size with h1 | h1
     ·exact h1
     ·rw [Array.getElem?_eq_none h1] at hf; cases hf
    exact ⟨xs[i],by rw [hall i f hf]; exact qt hi⟩) (by omega)
   simp only [List.drop_zero] at this
   obtain ⟨as,h1,h2,h3⟩ := this
   exact ⟨as,h1,h2,h3⟩
  ·rename_i n e ht
   simp only [qj,beq_iff_eq] at ho
   obtain ⟨xs,m,rfl,_,hl,hx,hall⟩ := DataW.trod_array ht h
   have := tys_reads fs (cs := cs) (fuel := m) ho.2 (fun i u hu => by
    rw [List.getElem?_map,qd] at hu
    obtain ⟨j,hj,rfl⟩ := hu
    have hj' : j < n := List.mem_range.1 (qp hj)
    replace hj := hj'
    exact ⟨xs[j],by rw [hall j hj]; exact qt (by omega)⟩) (by omega)
   simp only [List.drop_zero] at this
   obtain ⟨as,h1,h2,h3⟩ := this
   exact ⟨as,h1,h2,h3⟩
  ·cases ho
theorem tys_reads : ∀ (ts : List Ty) {fuel : Nat} {us : List (TypeId × Nat)} {o : Nat} {cs : List Value},okL P ts us o = true →
 (∀ (i : Nat) (u : TypeId × Nat),us[i]? = some u → ∃ y,DataW.trod enc P W 0 sp held fuel u.1 ((cs.drop u.2).take (P.cellsOf u.1)) = some y) → cs.length = o + sizes ts →
 ∃ as,Vs (cx0 W θ) as (cs.drop o) ∧ IsL ts as ∧ as.length = sizes ts
 | [],fuel,us,o,cs,_,_,hl => by
  refine ⟨[], ?_,rfl,rfl⟩
  simp only [Vs]
  simp only [sizes] at hl
  exact List.drop_eq_nil_of_le (by omega)
 | t :: ts,fuel,[],o,cs,ho,_,_ => by simp [okL] at ho
 | t :: ts,fuel,u :: us,o,cs,ho,h,hl => by
  simp only [okL,qj,beq_iff_eq] at ho
  obtain ⟨⟨⟨h1,h2⟩,h3⟩,h4⟩ := ho
  obtain ⟨y,hy⟩ := h 0 u rfl
  obtain ⟨as,g1,g2,g3⟩ := ty_reads t h1 hy
  simp only [sizes] at hl
  obtain ⟨bs,k1,k2,k3⟩ := tys_reads ts (cs := cs) h4 (fun i u hu => h (i + 1) u hu) (by omega)
  refine ⟨as ++ bs, ?_,⟨as,bs,rfl,g2,k2⟩,by simp [g3,k3,sizes]⟩
  rw [h2,h3] at g1
  have e : cs.drop o = (cs.drop o).take t.size ++ cs.drop (o + t.size) := by rw [← List.drop_drop,List.take_append_drop]
  rw [e]
  exact Vs_append g1 k1
end
theorem arg_one {ty : Ty} {t : TypeId} {v : Value} {d : DataW H} {ps : List MemPlace} {base : Nat} {r : Reach} (hn : ∀ fs,ty ≠ .row fs) (ho : ty.ok P t = true) (hv : Value.okWide P W r base t v)
 (h : DataW.Trod enc P W 0 sp held t v d ps) : ∃ a,V (cx0 W θ) a v ∧ ty.Is [a] := by
 obtain ⟨fuel,h⟩ := h
 have hagg : ∀ cs,v ≠ .agg cs := by
  rintro cs rfl
  unfold Value.okWide at hv
  cases ty with
  | row fs => exact hn fs rfl
  | bool =>
   simp only [Ty.ok] at ho
   split at ho
   ·rename_i ht; rw [ht] at hv; simp [Cell.okWide,Cell.ok,ht] at hv
   ·cases ho
  | int k =>
   simp only [Ty.ok] at ho
   split at ho
   ·rename_i ht; rw [ht] at hv; simp [Cell.okWide,Cell.ok,ht] at hv
   ·cases ho
  | str =>
   simp only [Ty.ok] at ho
   split at ho
   ·rename_i ht; rw [ht] at hv; simp [Cell.okWide,Cell.ok,ht] at hv
   ·cases ho
  | slice e =>
   simp only [Ty.ok] at ho
   split at ho
   ·rename_i ht; rw [ht] at hv; simp [Cell.okWide,Cell.ok,ht] at hv
   ·cases ho
 have hc : v.cells.toList = [v] := by
  cases v <;> first | rfl | exact (hagg _ rfl).elim
 rw [hc] at h
 obtain ⟨as,h1,h2,h3⟩ := ty_reads (θ := θ) ty ho h
 have : ∃ a,as = [a] := by
  have hl := Vs_length h1
  match as,hl with
  | [a],_ => exact ⟨a,rfl⟩
 obtain ⟨a,rfl⟩ := this
 simp only [Vs] at h1
 obtain ⟨_,_,e,h1,rfl⟩ := h1
 simp only [List.cons.injEq,and_true] at e
 subst e
 exact ⟨a,h1,h2⟩
end
end Go.Am

/- Symbolic values and memory: what a run over lists of any length is seen as; what it means that an idealised state is of such a shape. Generic: over any program. -/
namespace Go.Sy
open Go.Am
inductive SV (T : Nat → Type) where
 | a (v : AVal)
 | i (k : IntKind) (n : Int)
 | b (x : Bool)
 | s (x : List UInt8)
 | agg (cs : List (SV T))
 | tup (cs : List (SV T))
 | iface (t : TypeId) (v : SV T)
 | fn (f : Fn) (first captured : List (SV T))
 | ptr (id off : Nat)
 | ep (id : Nat) (i : Int) (off : Nat)
 | sl (sz id off len cap : Nat) (ex : Bool)
 | R (id : Nat)
 | mapr (id : Nat)
 | fp (cs : List (SV T))
 | tl (n : Nat) (l : List (T n))
 | any
structure Codec where
 T : Nat → Type
 sz : Nat → Nat
 enc : (n : Nat) → T n → List (SV T)
 dec : (n : Nat) → List (SV T) → Option (T n)
 dflt : (n : Nat) → T n
 ofTy : TypeId → Option Nat
 shape : Nat → List (Option Nat)
 flat : Nat → Bool
 bytes : (n : Nat) → Option (List (T n) → List UInt8)
def Codec.at (C : Codec) (n : Nat) (l : List (C.T n)) (i : Int) : C.T n := l.getD i.toNat (C.dflt n)
structure Env where
 β : Nat → Option Nat
 γ : Nat → Option AVal
 ω : Nat → Option Nat
 Fr : Nat → List AVal → Prop
def isSlB : AVal → Bool
 | .nils => true
 | .sl _ _ _ _ _ _ => true
 | .list _ _ _ => true
 | _ => false
variable {C : Codec}
inductive Er (E : Env) : SV C.T → AVal → Prop
 | a (v : AVal) : Er E (.a v) v
 | i (k : IntKind) (n : Int) : Er E (.i k n) (.int k n)
 | b (x : Bool) : Er E (.b x) (.bool x)
 | s (x : List UInt8) : Er E (.s x) (.str x)
 | agg {cs : List (SV C.T)} {as : List AVal} : cs.length = as.length → (∀ (i : Nat) (x : SV C.T) (a : AVal),cs[i]? = some x → as[i]? = some a → Er E x a) → Er E (.agg cs) (.agg as)
 | tup {cs : List (SV C.T)} {as : List AVal} : cs.length = as.length → (∀ (i : Nat) (x : SV C.T) (a : AVal),cs[i]? = some x → as[i]? = some a → Er E x a) → Er E (.tup cs) (.tup as)
 | iface {t : TypeId} {x : SV C.T} {a : AVal} : Er E x a → Er E (.iface t x) (.iface t a)
 | fn {f : Fn} {cs ds : List (SV C.T)} {as bs : List AVal} : cs.length = as.length → (∀ (i : Nat) (x : SV C.T) (a : AVal),cs[i]? = some x → as[i]? = some a → Er E x a) →
  ds.length = bs.length → (∀ (i : Nat) (x : SV C.T) (a : AVal),ds[i]? = some x → bs[i]? = some a → Er E x a) → Er E (.fn f cs ds) (.fn f as bs)
 | ptr {id b off : Nat} : E.β id = some b → Er E (.ptr id off) (.ptr b off)
 | ep {id : Nat} {i : Int} {off z b o len cap : Nat} {ex : Bool} : E.γ id = some (.sl z b o len cap ex) → Er E (.ep id i off) (.ptr b (o + i.toNat * z + off))
 | sl {sz id b off len cap : Nat} {ex : Bool} : E.β id = some b → Er E (.sl sz id off len cap ex) (.sl sz b off len cap ex)
 | R {id : Nat} {a : AVal} : E.γ id = some a → isSlB a = true → Er E (.R id) a
 | mapr {id b : Nat} : E.β id = some b → Er E (.mapr id) (.mapr b)
 | fpI {cs : List (SV C.T)} {as all rest : List AVal} : all = as ++ rest → cs.length = as.length → (∀ (i : Nat) (x : SV C.T) (a : AVal),cs[i]? = some x → as[i]? = some a → Er E x a) → Er E (.fp cs) (.ipt all)
 | fpP {cs : List (SV C.T)} {as all rest : List AVal} {b off : Nat} : E.Fr b all → all.drop off = as ++ rest → cs.length = as.length → (∀ (i : Nat) (x : SV C.T) (a : AVal),cs[i]? = some x → as[i]? = some a → Er E x a) → Er E (.fp cs) (.ptr b off)
 | tlN {n : Nat} : Er E (.tl n []) .nils
 | tlL {n z : Nat} {l : List (C.T n)} {rows : List (List AVal)} {ex : Bool} : z = C.sz n → rows.length = l.length → (∀ (i : Nat) (r : List AVal),rows[i]? = some r → r.length = C.sz n) →
  (∀ (i : Nat) (y : C.T n) (r : List AVal) (j : Nat) (x : SV C.T) (a : AVal),l[i]? = some y → rows[i]? = some r → (C.enc n y)[j]? = some x → r[j]? = some a → Er E x a) → Er E (.tl n l) (.list z rows ex)
 | tlS {n z b off len cap : Nat} {l : List (C.T n)} {as : List AVal} {ex : Bool} : z = C.sz n → len = l.length → E.Fr b as → off + l.length * C.sz n ≤ as.length → l.length ≤ cap →
  (∀ (i : Nat) (y : C.T n) (j : Nat) (x : SV C.T) (a : AVal),l[i]? = some y → (C.enc n y)[j]? = some x → as[off + i * C.sz n + j]? = some a → Er E x a) → Er E (.tl n l) (.sl z b off len cap ex)
 | any {a : AVal} : Er E .any a
def Ers (E : Env) (cs : List (SV C.T)) (as : List AVal) : Prop := cs.length = as.length ∧ ∀ (i : Nat) (x : SV C.T) (a : AVal),cs[i]? = some x → as[i]? = some a → Er E x a
structure Env.le (E E' : Env) : Prop where
 β : ∀ id b,E.β id = some b → E'.β id = some b
 γ : ∀ id a,E.γ id = some a → E'.γ id = some a
 ω : ∀ b r,E.ω b = some r → E'.ω b = some r
 Fr : ∀ b cs,E.Fr b cs → E'.Fr b cs
theorem Env.le.refl (E : Env) : E.le E := ⟨fun _ _ h => h,fun _ _ h => h,fun _ _ h => h,fun _ _ h => h⟩
theorem Env.le.trans {E E' E'' : Env} (h : E.le E') (k : E'.le E'') : E.le E'' :=
 ⟨fun _ _ x => k.β _ _ (h.β _ _ x),fun _ _ x => k.γ _ _ (h.γ _ _ x),fun _ _ x => k.ω _ _ (h.ω _ _ x),fun _ _ x => k.Fr _ _ (h.Fr _ _ x)⟩
theorem Er.mono' {E E' : Env} (hβ : ∀ id b,E.β id = some b → E'.β id = some b) (hγ : ∀ id a,E.γ id = some a → E'.γ id = some a) (hF : ∀ b cs,E.Fr b cs → E'.Fr b cs)
 {x : SV C.T} {a : AVal} (h : Er E x a) : Er E' x a := by
 induction h with
 | a v => exact .a v
 | i k n => exact .i k n
 | b x => exact .b x
 | s x => exact .s x
 | agg hl _ ih => exact .agg hl ih
 | tup hl _ ih => exact .tup hl ih
 | iface _ ih => exact .iface ih
 | fn h1 _ h2 _ ih1 ih2 => exact .fn h1 ih1 h2 ih2
 | ptr h => exact .ptr (hβ _ _ h)
 | ep h => exact .ep (hγ _ _ h)
 | sl h => exact .sl (hβ _ _ h)
 | R h hs => exact .R (hγ _ _ h) hs
 | mapr h => exact .mapr (hβ _ _ h)
 | fpI e hl _ ih => exact .fpI e hl ih
 | fpP hf e hl _ ih => exact .fpP (hF _ _ hf) e hl ih
 | tlN => exact .tlN
 | tlL hz hl hr _ ih => exact .tlL hz hl hr ih
 | tlS hz hl hf ho hc _ ih => exact .tlS hz hl (hF _ _ hf) ho hc ih
 | any => exact .any
theorem Er.mono {E E' : Env} (k : E.le E') {x : SV C.T} {a : AVal} (h : Er E x a) : Er E' x a := h.mono' k.β k.γ k.Fr
theorem Ers.mono {E E' : Env} (k : E.le E') {xs : List (SV C.T)} {as : List AVal} (h : Ers E xs as) : Ers E' xs as := ⟨h.1,fun i x a h1 h2 => (h.2 i x a h1 h2).mono k⟩
theorem Ers.nil {E : Env} : Ers E ([] : List (SV C.T)) [] := ⟨rfl,fun _ _ _ h => by simp at h⟩
theorem Ers.cons {E : Env} {x : SV C.T} {a : AVal} {xs : List (SV C.T)} {as : List AVal} (h : Er E x a) (hs : Ers E xs as) : Ers E (x :: xs) (a :: as) := by
 refine ⟨by simp [hs.1],fun i y b h1 h2 => ?_⟩
 cases i with
 | zero => simp at h1 h2; subst h1 h2; exact h
 | succ i => simp at h1 h2; exact hs.2 i y b h1 h2
theorem Ers.inv_cons {E : Env} {x : SV C.T} {xs : List (SV C.T)} {as : List AVal} (h : Ers E (x :: xs) as) : ∃ a as',as = a :: as' ∧ Er E x a ∧ Ers E xs as' := by
 cases as with
 | nil => simp [Ers] at h
 | cons a as' =>
  refine ⟨a,as',rfl,h.2 0 x a rfl rfl,by simpa using h.1,fun i y b h1 h2 => h.2 (i + 1) y b (by simpa using h1) (by simpa using h2)⟩
theorem Ers.inv_nil {E : Env} {as : List AVal} (h : Ers E ([] : List (SV C.T)) as) : as = [] := by
 cases as with
 | nil => rfl
 | cons a as => simp [Ers] at h
theorem Ers.append {E : Env} {xs ys : List (SV C.T)} {as bs : List AVal} (h : Ers E xs as) (k : Ers E ys bs) : Ers E (xs ++ ys) (as ++ bs) := by
 induction xs generalizing as with
 | nil => rw [h.inv_nil]; exact k
 | cons x xs ih =>
  obtain ⟨a,as',rfl,h1,h2⟩ := h.inv_cons
  exact (ih h2).cons h1
theorem Ers.drop {E : Env} {xs : List (SV C.T)} {as : List AVal} (h : Ers E xs as) (n : Nat) : Ers E (xs.drop n) (as.drop n) :=
 ⟨by simp [h.1],fun i x a h1 h2 => h.2 (n + i) x a (by simpa using h1) (by simpa using h2)⟩
theorem Ers.take {E : Env} {xs : List (SV C.T)} {as : List AVal} (h : Ers E xs as) (n : Nat) : Ers E (xs.take n) (as.take n) := by
 refine ⟨by simp [h.1],fun i x a h1 h2 => ?_⟩
 rw [qx] at h1 h2
 split at h1
 ·rename_i hi
  rw [if_pos hi] at h2
  exact h.2 i x a h1 h2
 ·cases h1
theorem Ers.get {E : Env} {xs : List (SV C.T)} {as : List AVal} (h : Ers E xs as) {i : Nat} {x : SV C.T} (hx : xs[i]? = some x) : ∃ a,as[i]? = some a ∧ Er E x a := by
 have hl : i < xs.length := by
  rcases qm i xs.length with k | k
  ·exact k
  ·rw [qr k] at hx; cases hx
 have hl' : i < as.length := by rw [← h.1]; exact hl
 exact ⟨as[i],qt hl',h.2 i x _ hx (qt hl')⟩
theorem Ers.mapA {E : Env} (as : List AVal) : Ers (C := C) E (as.map .a) as := by
 refine ⟨by simp,fun i x a h1 h2 => ?_⟩
 rw [List.getElem?_map,h2] at h1
 simp only [Option.map_some,qa] at h1
 subst h1
 exact .a a
inductive Obj (T : Nat → Type) where
 | cells (cs : List (SV T))
 | rows (n : Nat) (l : List (T n)) (full : Bool) (root : Nat)
 | mp (es : List (Int × SV T))
 | it (s : List UInt8) (pos : Nat)
abbrev SH (C : Codec) := List (Option (Obj C.T))
def RowsAt (E : Env) (n : Nat) (l : List (C.T n)) (as : List AVal) (off : Nat) : Prop :=
 ∀ (i : Nat) (y : C.T n) (j : Nat) (x : SV C.T) (a : AVal),l[i]? = some y → (C.enc n y)[j]? = some x → as[off + i * C.sz n + j]? = some a → Er E x a
def mpAt (n : Int) : List (AVal × AVal) → Option AVal
 | [] => none
 | (.int .i64 m,v) :: es => if n = m then some v else mpAt n es
 | _ :: es => mpAt n es
structure MpOk (E : Env) (es : List (Int × SV C.T)) (as : List (AVal × AVal)) : Prop where
 keys : ∀ p,p ∈ as → ∃ n,p.1 = .int .i64 n
 nodup : (es.map (·.1)).Nodup
 val : ∀ n x,(n,x) ∈ es → (∃ v,mpAt n as = some v ∧ Er E x v) ∨ (mpAt n as = none ∧ Er E x .nils)
 dom : ∀ n v,mpAt n as = some v → ∃ x,(n,x) ∈ es
theorem MpOk.mono {E E' : Env} (k : E.le E') {es : List (Int × SV C.T)} {as : List (AVal × AVal)} (h : MpOk E es as) : MpOk E' es as :=
 ⟨h.keys,h.nodup,fun n x hx => (h.val n x hx).imp (fun ⟨v,h1,h2⟩ => ⟨v,h1,h2.mono k⟩) (fun ⟨h1,h2⟩ => ⟨h1,h2.mono k⟩),h.dom⟩
def EmptyA (E : Env) (z : Nat) (a : AVal) : Prop := a = .nils ∨ a = .list z [] true
def ObjOk (E : Env) (H : Heap) (id : Nat) : Obj C.T → Prop
 | .cells cs => ∃ b as,E.β id = some b ∧ E.ω b = some id ∧ H[b]? = some (some (.cells as)) ∧ Ers E cs as
 | .mp es => ∃ b as,E.β id = some b ∧ E.ω b = some id ∧ H[b]? = some (some (.mp as)) ∧ MpOk E es as
 | .it s pos => ∃ b,E.β id = some b ∧ E.ω b = some id ∧ H[b]? = some (some (.it s pos))
 | .rows n l full root => (l = [] ∧ E.β id = none ∧ ∃ a,E.γ id = some a ∧ EmptyA E (C.sz n) a) ∨
  ∃ b off cap ex as,E.γ id = some (.sl (C.sz n) b off l.length cap ex) ∧ E.β id = some b ∧ E.ω b = some root ∧ H[b]? = some (some (.cells as)) ∧ l.length ≤ cap ∧ off + cap * C.sz n ≤ as.length ∧
   (ex = true ∨ off + cap * C.sz n = as.length) ∧ (full = true → ex = true ∨ cap = l.length) ∧ RowsAt E n l as off
theorem ObjOk.mono {E E' : Env} (k : E.le E') {H : Heap} {id : Nat} {o : Obj C.T} (hb : E.β id = none → E'.β id = none) (h : ObjOk E H id o) : ObjOk E' H id o := by
 cases o with
 | cells cs =>
  obtain ⟨b,as,h1,hw,h2,h3⟩ := h
  exact ⟨b,as,k.β _ _ h1,k.ω _ _ hw,h2,h3.mono k⟩
 | mp es =>
  obtain ⟨b,as,h1,hw,h2,h3⟩ := h
  exact ⟨b,as,k.β _ _ h1,k.ω _ _ hw,h2,h3.mono k⟩
 | it s pos =>
  obtain ⟨b,h1,hw,h2⟩ := h
  exact ⟨b,k.β _ _ h1,k.ω _ _ hw,h2⟩
 | rows n l full root =>
  rcases h with ⟨h1,h2,a,h3,h4⟩ | ⟨b,off,cap,ex,as,h1,h2,hw,h3,h4,h5,h6,h7,h8⟩
  ·refine .inl ⟨h1,hb h2,a,k.γ _ _ h3, ?_⟩
   exact h4
  ·exact .inr ⟨b,off,cap,ex,as,k.γ _ _ h1,k.β _ _ h2,k.ω _ _ hw,h3,h4,h5,h6,h7,fun i y j x a q1 q2 q3 => (h8 i y j x a q1 q2 q3).mono k⟩
structure SimH (E : Env) (lo wlo : Nat) (h : SH C) (H : Heap) : Prop where
 obj : ∀ (id : Nat) (o : Obj C.T),h[id]? = some (some o) → ObjOk E H id o
 inj : ∀ (id id' : Nat) (o o' : Obj C.T) (b : Nat),h[id]? = some (some o) → h[id']? = some (some o') → E.β id = some b → E.β id' = some b → id = id'
 fr : ∀ (b : Nat) (cs : List AVal),E.Fr b cs → H[b]? = some (some (.cells cs)) ∧ ∀ (id : Nat) (o : Obj C.T),h[id]? = some (some o) → E.β id ≠ some b
 fresh : ∀ (id : Nat),h.length ≤ id → E.β id = none ∧ E.γ id = none
 low : ∀ (id b : Nat),wlo ≤ id → E.β id = some b → lo ≤ b
 bnd : ∀ (id b : Nat),E.β id = some b → b < H.length
 own : ∀ (b r : Nat),E.ω b = some r → b < H.length ∧ ∀ cs,¬ E.Fr b cs
 βω : ∀ (id b : Nat),E.β id = some b → ∃ r,E.ω b = some r
 wl : wlo ≤ h.length
 ll : lo ≤ H.length
inductive Tree : Type 1 where
 | ok
 | fork (b : Bool) (x y : Tree)
 | need (p : Prop) (x : Tree)
 | ex (α : Type) (f : α → Tree)
 | all (α : Type) (f : α → Tree)
 | imp (p : Prop) (x : Tree)
 | and (x y : Tree)
 | stuck (why : String)
def Stuck (_ : String) : Prop := False
def Tree.holds : Tree → Prop
 | .ok => True
 | .fork b x y => (b = true → x.holds) ∧ (b = false → y.holds)
 | .need p x => p ∧ x.holds
 | .ex α f => ∃ a : α,(f a).holds
 | .all α f => ∀ a : α,(f a).holds
 | .imp p x => p → x.holds
 | .and x y => x.holds ∧ y.holds
 | .stuck why => Stuck why
theorem stuck_no {s : String} (h : (Tree.stuck s).holds) : False := h
theorem qa1 {p : Prop} {s : String} (h : (Tree.stuck s).holds) : p := (stuck_no h).elim
theorem fork_cases {b : Bool} {x y : Tree} (h : (Tree.fork b x y).holds) : (b = true ∧ x.holds) ∨ (b = false ∧ y.holds) := by
 cases b with
 | true => exact .inl ⟨rfl,h.1 rfl⟩
 | false => exact .inr ⟨rfl,h.2 rfl⟩
def opt {α : Type} (x : Option α) (why : String) (K : α → Tree) : Tree :=
 match x with
 | some v => K v
 | none => .stuck why
theorem opt_some {α : Type} {x : Option α} {why : String} {K : α → Tree} (h : (opt x why K).holds) : ∃ v,x = some v ∧ (K v).holds := by
 cases x with
 | some v => exact ⟨v,rfl,h⟩
 | none => exact qa1 h
end Go.Sy

/- What each operation does to symbolic values. Generic: over any program. -/
namespace Go.Sy
set_option linter.unusedVariables false
open Go.Am
variable {C : Codec}
structure SR (C : Codec) where
 t : Bt (SV C.T)
 n : Nat
noncomputable def SR.get (r : SR C) (i : Nat) : SV C.T := bif Nat.blt i r.n then (r.t.get i).getD .any else .a undefA
noncomputable def SR.set (r : SR C) (i : Nat) (v : SV C.T) : SR C := bif Nat.blt i r.n then ⟨r.t.set v i,r.n⟩ else r
noncomputable def SR.fill : List (SV C.T) → Nat → SR C → SR C
 | [],_,r => r
 | a :: as,i,r => SR.fill as (i + 1) (r.set i a)
noncomputable def SR.frame (args : List (SV C.T)) (n : Nat) : SR C := SR.fill args 0 ⟨Bt.full (.a undefA) 9,n⟩
noncomputable def SR.only (n : Nat) : List (Nat × SV C.T) → SR C
 | [] => ⟨Bt.full .any 9,n⟩
 | (i,v) :: l => (SR.only n l).set i v
def hget (h : SH C) (id : Nat) : Option (Obj C.T) := match h[id]? with
 | some (some o) => some o
 | _ => none
def cellsS {T : Nat → Type} : SV T → Option (List (SV T))
 | .agg cs => some cs
 | .a (.agg as) => some (as.map .a)
 | .any => none
 | x => some [x]
def oneS {T : Nat → Type} : SV T → Bool
 | .agg _ => false
 | .tup _ => false
 | .any => false
 | .a v => v.one
 | _ => true
def scal {T : Nat → Type} : SV T → Bool
 | .a _ => true
 | .i _ _ => true
 | .b _ => true
 | .s _ => true
 | _ => false
def noId {T : Nat → Type} : SV T → Bool
 | .a _ => true
 | .i _ _ => true
 | .b _ => true
 | .s _ => true
 | .tl _ _ => true
 | _ => false
def liftV {T : Nat → Type} : AVal → SV T
 | .int k n => .i k n
 | .bool b => .b b
 | .str s => .s s
 | v => .a v
def intOf {T : Nat → Type} : SV T → Option (IntKind × Int)
 | .i k n => some (k,n)
 | .a (.int k n) => some (k,n)
 | _ => none
def strOf {T : Nat → Type} : SV T → Option (List UInt8)
 | .s x => some x
 | .a (.str x) => some x
 | _ => none
def boolOf {T : Nat → Type} : SV T → Option Bool
 | .b x => some x
 | .a (.bool x) => some x
 | _ => none
def nkS {T : Nat → Type} : SV T → Option (NK × Bool)
 | .a v => nk v
 | .iface _ _ => some (.i,false)
 | .ptr _ _ => some (.p,false)
 | .ep _ _ _ => some (.p,false)
 | .fp _ => some (.p,false)
 | .sl _ _ _ _ _ _ => some (.s,false)
 | .fn _ _ _ => some (.f,false)
 | .mapr _ => some (.m,false)
 | _ => none
section
variable (P : Program)
def partS {T : Nat → Type} (t : TypeId) (cs : List (SV T)) (off : Nat) : Option (SV T) :=
 match P.underlying t with
 | some (.struct _) | some (.array _ _) =>
  if off + szOf P t ≤ cs.length then some (.agg ((cs.drop off).take (szOf P t))) else none
 | some _ => cs[off]?
 | none => none
def chain (j : Int) (K : Nat → Tree) : Nat → Tree
 | 0 => .stuck "no such place"
 | 1 => K 0
 | m + 2 => .fork (j == ((m + 1 : Nat) : Int)) (K (m + 1)) (chain j K (m + 1))
def idxK {T : Nat → Type} (x : SV T) (len : Nat) (K : Nat → Tree) : Tree :=
 match x with
 | .a (.int _ n) => match n with
  | .ofNat m => bif Nat.blt m len then K m else .stuck "a place behind the end"
  | _ => .stuck "a place below nothing"
 | .i _ n => .need (0 ≤ n ∧ n < (len : Int)) (chain n K len)
 | _ => .stuck "a place that is no number"
def divS {T : Nat → Type} (op : BinOp) (k : IntKind) (m n : Int) (lit : Bool) (K : SV T → Tree) : Tree :=
 bif lit then
  match n with
  | .ofNat 0 => .stuck "division by nothing"
  | _ => match op with
   | .quo => K (.i k (k.wrap (m.tdiv n)))
   | _ => K (.i k (m.tmod n))
 else .need (n ≠ 0) (match op with
  | .quo => K (.i k (k.wrap (m.tdiv n)))
  | _ => K (.i k (m.tmod n)))
def shS {T : Nat → Type} (op : BinOp) (k : IntKind) (m n : Int) (K : SV T → Tree) : Tree :=
 .need (0 ≤ n) (match op with
  | .shl => K (.i k (k.wrap (m * 2 ^ (min n.toNat k.bits))))
  | _ => K (.i k (m.fdiv (2 ^ (min n.toNat k.bits)))))
def isLit {T : Nat → Type} : SV T → Bool
 | .a _ => true
 | _ => false
def intBinS {T : Nat → Type} (op : BinOp) (k k' : IntKind) (m n : Int) (lit : Bool) (K : SV T → Tree) : Tree :=
 match op with
 | .shl => shS .shl k m n K
 | .shr => shS .shr k m n K
 | .quo => if k = k' then divS .quo k m n lit K else .stuck "kinds"
 | .rem => if k = k' then divS .rem k m n lit K else .stuck "kinds"
 | op => if k = k' then opt (intBin op k m n) "no such operation" fun v => K (liftV v) else .stuck "kinds"
def strBinS {T : Nat → Type} (op : BinOp) (x y : List UInt8) (K : SV T → Tree) : Tree :=
 match op with
 | .add => .need (((x.length + y.length : Nat) : Int) ≤ IntKind.i64.max) (K (.s (x ++ y)))
 | op => opt (strBin op x y) "no such operation" fun v => K (liftV v)
def boolBinS {T : Nat → Type} (op : BinOp) (t : TypeId) (x y : Bool) (K : SV T → Tree) : Tree :=
 bif boolB P t then
  match op with
  | .eql => K (.b (x == y))
  | .neq => K (.b (!(x == y)))
  | _ => .stuck "no such operation"
 else .stuck "no truth"
def nilBinS {T : Nat → Type} (op : BinOp) (t : TypeId) (lit : Bool) (x y : NK × Bool) (K : SV T → Tree) : Tree :=
 if x.1 = y.1 ∧ (x.2 = true ∨ y.2 = true) ∧ nkOk P t x.1 = true ∧ (lit = true ∨ x.1 ≠ .i ∨ x.2 = false ∨ y.2 = false) then
  match op with
  | .eql => K (.a (.bool (x.2 && y.2)))
  | .neq => K (.a (.bool (!(x.2 && y.2))))
  | _ => .stuck "no such operation"
 else .stuck "nil"
def toA {T : Nat → Type} : SV T → Option AVal
 | .a v => some v
 | .i k n => some (.int k n)
 | .b x => some (.bool x)
 | .s x => some (.str x)
 | _ => none
def toAs {T : Nat → Type} : List (SV T) → Option (List AVal)
 | [] => some []
 | x :: xs => match toA x,toAs xs with
  | some a,some l => some (a :: l)
  | _,_ => none
def aggA {T : Nat → Type} : SV T → Option (List AVal)
 | .agg cs => toAs cs
 | .a (.agg l) => some l
 | _ => none
def tlNilS {T : Nat → Type} (op : BinOp) (t : TypeId) (lit : Bool) (x y : SV T) (K : SV T → Tree) : Tree :=
 match x,y with
 | .tl n l,.a .nils => .and (.imp (l = []) (nilBinS P op t lit (.s,true) (.s,true) K)) (nilBinS P op t lit (.s,false) (.s,true) K)
 | _,_ => .stuck "binop"
def binS {T : Nat → Type} (op : BinOp) (t : TypeId) (lit : Bool) (x y : SV T) (K : SV T → Tree) : Tree :=
 bif isLit x && isLit y then
  match x,y with
  | .a (.iface t1 v),.a (.iface t2 w) => opt (binA P op t lit (.iface t1 v) (.iface t2 w)) "binop" fun r => K (liftV r)
  | .a v,.a w => opt (binA P op t lit v w) "binop" fun r => K (.a r)
  | _,_ => .stuck ""
 else
  match intOf x,intOf y with
  | some (k,m),some (k',n) => intBinS op k k' m n (isLit y) K
  | _,_ => match strOf x,strOf y with
   | some s,some s' => strBinS op s s' K
   | _,_ => match boolOf x,boolOf y with
    | some b,some b' => boolBinS P op t b b' K
    | _,_ => match nkS x,nkS y with
     | some p,some q => nilBinS P op t lit p q K
     | _,_ => match aggA x,aggA y with
      | some l,some l' => opt (binA P op t lit (.agg l) (.agg l')) "binop" fun r => K (liftV r)
      | _,_ => tlNilS P op t lit x y K
def unS {T : Nat → Type} (op : UnOp) (x : SV T) (K : SV T → Tree) : Tree :=
 match x with
 | .a v => opt (unA op v) "unop" fun r => K (.a r)
 | .i k n => opt (unA op (.int k n)) "unop" fun r => K (liftV r)
 | .b t => opt (unA op (.bool t)) "unop" fun r => K (liftV r)
 | _ => .stuck "unop"
def fieldAddrS {T : Nat → Type} (t : TypeId) (x : SV T) (f : Nat) (K : SV T → Tree) : Tree :=
 match P.underlying t with
 | some (.struct fs) =>
  match fs[f]? with
  | some fd =>
   if (P.info? fd.type).isSome ∧ szOf P fd.type ≠ 0 then
    match x with
    | .ptr id off => K (.ptr id (off + fd.offset))
    | .ep id i off => K (.ep id i (off + fd.offset))
    | .fp cs => if fd.offset ≤ cs.length then K (.fp (cs.drop fd.offset)) else .stuck "fieldAddr"
    | .a (.ipt cs) => K (.a (.ipt (cs.drop fd.offset)))
    | .a (.eptr _ cs) => K (.a (.ipt (cs.drop fd.offset)))
    | _ => .stuck "fieldAddr"
   else .stuck "fieldAddr"
  | none => .stuck "fieldAddr"
 | _ => .stuck "fieldAddr"
def fieldS {T : Nat → Type} (t : TypeId) (x : SV T) (f : Nat) (K : SV T → Tree) : Tree :=
 match P.underlying t with
 | some (.struct fs) =>
  match fs[f]? with
  | some fd => if (P.info? fd.type).isSome then
   match x with
   | .agg cs => opt (partS P fd.type cs fd.offset) "field" K
   | .a (.agg as) => opt (partA P fd.type as fd.offset) "field" fun v => K (.a v)
   | _ => .stuck "field"
   else .stuck "field"
  | none => .stuck "field"
 | _ => .stuck "field"
def indexAddrS (t : TypeId) (h : SH C) (x i : SV C.T) (K : SV C.T → Tree) : Tree :=
 match P.underlying t with
 | some (.array len e) =>
  if (P.info? e).isSome then
   match x with
   | .ptr id off => idxK i len fun j => K (.ptr id (off + j * szOf P e))
   | .fp cs => idxK i len fun j => if j * szOf P e ≤ cs.length then K (.fp (cs.drop (j * szOf P e))) else .stuck "indexAddr"
   | .a (.ipt cs) => idxK i len fun j => K (.a (.ipt (cs.drop (j * szOf P e))))
   | _ => .stuck "indexAddr"
  else .stuck "indexAddr"
 | some (.slice e) =>
  if (P.info? e).isSome then
   match x with
   | .tl n l => if C.sz n = szOf P e then
    match intOf i with
    | some (_,j) => .need (0 ≤ j ∧ j < (l.length : Int)) (K (.fp (C.enc n (C.at n l j))))
    | none => .stuck "indexAddr"
    else .stuck "indexAddr"
   | .R id => match hget h id with
    | some (.rows n l _ _) => if C.sz n = szOf P e then
     match intOf i with
     | some (_,j) => .need (0 ≤ j ∧ j < (l.length : Int)) (K (.ep id j 0))
     | none => .stuck "indexAddr"
     else .stuck "indexAddr"
    | _ => .stuck "indexAddr: gone"
   | .sl sz id off len _ _ => if sz = szOf P e then idxK i len fun j => K (.ptr id (off + j * sz)) else .stuck "indexAddr"
   | .a (.list sz rows ex) => if sz = szOf P e then idxK i rows.length fun j => opt (rows[j]?) "indexAddr" fun r => K (.a (.ipt r)) else .stuck "indexAddr"
   | _ => .stuck "indexAddr"
  else .stuck "indexAddr"
 | _ => .stuck "indexAddr"
def indexS {T : Nat → Type} (t : TypeId) (x i : SV T) (K : SV T → Tree) : Tree :=
 match P.underlying t with
 | some (.array len e) =>
  if (P.info? e).isSome then
   match x with
   | .agg cs => idxK i len fun j => opt (partS P e cs (j * szOf P e)) "index" K
   | .a (.agg as) => idxK i len fun j => opt (partA P e as (j * szOf P e)) "index" fun v => K (.a v)
   | _ => .stuck "index"
  else .stuck "index"
 | some .string =>
  match x,i with
  | .a (.str s),.a (.int _ n) => match n with
   | .ofNat m => opt (s[m]?) "index" fun b => K (.a (.int .u8 b.toNat))
   | _ => .stuck "index"
  | _,_ =>
   match strOf x,intOf i with
   | some s,some (_,j) => .need (0 ≤ j ∧ j < (s.length : Int)) (K (.i .u8 ((s.getD j.toNat 0).toNat)))
   | _,_ => .stuck "index"
 | _ => .stuck "index"
def lenS (t : TypeId) (h : SH C) (x : SV C.T) (K : SV C.T → Tree) : Tree :=
 match P.underlying t with
 | some .string => match x with
  | .a (.str s) => K (.a (.int .i64 s.length))
  | .s s => K (.i .i64 s.length)
  | _ => .stuck "len"
 | some (.array n _) => match x with
  | .mapr _ => .stuck "len"
  | .any => .stuck "len"
  | .a (.mapr _) => .stuck "len"
  | _ => K (.a (.int .i64 n))
 | some (.slice _) => match x with
  | .a .nils => K (.a (.int .i64 0))
  | .a (.list _ rows _) => K (.a (.int .i64 rows.length))
  | .sl _ _ _ len _ _ => K (.a (.int .i64 len))
  | .tl _ l => K (.i .i64 l.length)
  | .R id => match hget h id with
   | some (.rows _ l _ _) => K (.i .i64 l.length)
   | _ => .stuck "len: gone"
  | _ => .stuck "len"
 | _ => .stuck "len"
def loadS (t : TypeId) (h : SH C) (x : SV C.T) (K : SV C.T → Tree) : Tree :=
 match x with
 | .ptr id off => match hget h id with
  | some (.cells cs) => if off ≤ cs.length then opt (partS P t (cs.drop off) 0) "load" K else .stuck "load"
  | _ => .stuck "load: gone"
 | .ep id i off => match hget h id with
  | some (.rows n l _ _) => .need (0 ≤ i ∧ i < (l.length : Int)) (if off ≤ C.sz n then opt (partS P t ((C.enc n (C.at n l i)).drop off) 0) "load" K else .stuck "load")
  | _ => .stuck "load: gone"
 | .fp cs => opt (partS P t cs 0) "load" K
 | .a (.ipt cs) => opt (partA P t cs 0) "load" fun v => K (.a v)
 | .a (.eptr _ cs) => opt (partA P t cs 0) "load" fun v => K (.a v)
 | _ => .stuck "load"
def litV {T : Nat → Type} : SV T → Option AVal
 | .a v => some v
 | .i k n => some (.int k n)
 | .b t => some (.bool t)
 | .s x => some (.str x)
 | .iface t (.a v) => some (.iface t v)
 | _ => none
def bytesS {T : Nat → Type} : List (SV T) → Option (List UInt8)
 | [] => some []
 | x :: xs => match intOf x with
  | some (.u8,n) => (bytesS xs).map (UInt8.ofNat n.toNat :: ·)
  | _ => none
def byteR (C : Codec) (n : Nat) (y : C.T n) : UInt8 := match C.enc n y with
 | [x] => match intOf x with
  | some (_,m) => UInt8.ofNat m.toNat
  | none => 0
 | _ => 0
def convS (s d : TypeId) (h : SH C) (x : SV C.T) (K : SV C.T → Tree) : Tree :=
 match x with
 | .a v => opt (convHA P s d [] v) "convert" fun r => K (.a r)
 | .i _ n => match P.underlying s,P.underlying d with
  | some _,some (.int k) => K (.i k (k.wrap n))
  | _,_ => .stuck "convert"
 | .s x => match P.underlying s,P.underlying d with
  | some _,some .string => K (.s x)
  | _,_ => .stuck "convert"
 | .sl sz id off len _ _ => match P.underlying s,P.underlying d,hget h id with
  | some (.slice e),some .string,some (.cells cs) => match P.underlying e with
   | some (.int .u8) => if sz = 1 ∧ off + len ≤ cs.length then
    match bytesS ((cs.drop off).take len) with
    | some b => K (.s b)
    | none => .stuck "convert: bytes"
    else .stuck "convert"
   | _ => .stuck "convert"
  | _,_,_ => .stuck "convert"
 | .R id => match P.underlying s,P.underlying d,hget h id with
  | some (.slice e),some .string,some (.rows n l _ _) => match P.underlying e with
   | some (.int .u8) => if C.sz n = 1 then .need (∀ y,y ∈ l → ∃ x m,C.enc n y = [x] ∧ intOf x = some (.u8,m)) (K (.s (l.map (byteR C n)))) else .stuck "convert: rows"
   | _ => .stuck "convert"
  | _,_,_ => .stuck "convert"
 | _ => .stuck "convert"
def typeAssertS {T : Nat → Type} (x : SV T) (t : TypeId) (ok : Bool) (K : SV T → Tree) : Tree :=
 match x with
 | .a v => opt (typeAssertA P v t ok) "typeAssert" fun r => K (.a r)
 | .iface u v =>
  match P.underlying t with
  | some (.interface want) =>
   match P.info? u with
   | some i =>
    if lacksA want i.methods then (if ok then opt (zeroA P t) "typeAssert" fun z => K (.tup [.a z,.a (.bool false)]) else .stuck "typeAssert")
    else K (if ok then .tup [.iface u v,.a (.bool true)] else .iface u v)
   | none => .stuck "typeAssert"
  | some _ =>
   if u = t then K (if ok then .tup [v,.a (.bool true)] else v)
   else if ok then opt (zeroA P t) "typeAssert" fun z => K (.tup [.a z,.a (.bool false)]) else .stuck "typeAssert"
  | none => .stuck "typeAssert"
 | _ => .stuck "typeAssert"
def fillS {T : Nat → Type} (place : Nat → Option (Nat × Nat)) (cells : List (SV T)) : List (Nat × SV T) → Option (List (SV T))
 | [] => some cells
 | (i,v) :: rest =>
  match place i with
  | none => none
  | some (off,size) =>
   match cellsS v with
   | none => none
   | some vs => if vs.length ≠ size ∨ off + vs.length > cells.length ∨ !vs.all oneS then none
    else fillS place (cells.take off ++ vs ++ cells.drop (off + vs.length)) rest
def buildS {T : Nat → Type} (t : TypeId) (parts : List (Nat × SV T)) (K : SV T → Tree) : Tree :=
 match zeroA P t with
 | none => .stuck "build"
 | some z =>
  if !z.cells.all AVal.one then .stuck "build" else
  match P.underlying t with
  | some (.struct fs) =>
   if fs.all (fun f => (P.info? f.type).isSome) then opt (fillS (fun i => (fs[i]?).map fun f => (f.offset,szOf P f.type)) (z.cells.map .a) parts) "build" fun cs => K (.agg cs) else .stuck "build"
  | some (.array _ e) => if (P.info? e).isSome then opt (fillS (fun i => some (i * szOf P e,szOf P e)) (z.cells.map .a) parts) "build" fun cs => K (.agg cs) else .stuck "build"
  | _ => .stuck "build"
end
def sEval {C : Codec} (S : AStat) (g : Nat → SV C.T) : Operand → SV C.T
 | .tmp t => g t
 | .const v => .a (constA v)
 | .global x => match S.glob x with
  | some cs => .a (.ipt cs)
  | none => .any
 | .func f => .a (.fn (.func f) [] [])
end Go.Sy

/- The quiet operations on symbolic values are sound. Generic: over any program. -/
namespace Go.Sy
open Go.Am
set_option linter.unusedVariables false
variable {C : Codec} {E : Env}
def Ret (E : Env) (r : Option AVal) (K : SV C.T → Tree) : Prop := ∃ v sv,r = some v ∧ Er E sv v ∧ (K sv).holds
theorem Er.lift (v : AVal) : Er (C := C) E (liftV v) v := by
 cases v <;> simp only [liftV] <;> constructor
theorem cellsS_ok {x : SV C.T} {a : AVal} {cs : List (SV C.T)} (h : Er E x a) (hc : cellsS x = some cs) : Ers E cs a.cells := by
 have one : ∀ {x : SV C.T} {a : AVal},Er E x a → (∀ as,a ≠ .agg as) → Ers E [x] a.cells := by
  intro x a h ha
  have : a.cells = [a] := by cases a <;> first | rfl | exact (ha _ rfl).elim
  rw [this]
  exact Ers.nil.cons h
 cases h with
 | a =>
  cases a <;> simp only [cellsS,qa] at hc <;> subst hc <;> first
   | exact Ers.mapA _
   | exact Ers.nil.cons (.a _)
 | agg hl hr =>
  simp only [cellsS,qa] at hc
  subst hc
  exact ⟨hl,hr⟩
 | any => cases hc
 | R h hs =>
  simp only [cellsS,qa] at hc
  subst hc
  exact one (.R h hs) (fun as e => by subst e; simp [isSlB] at hs)
 | tup hl hr => simp only [cellsS,qa] at hc; subst hc; exact one (.tup hl hr) (by intro as e; cases e)
 | fn h1 h2 h3 h4 => simp only [cellsS,qa] at hc; subst hc; exact one (.fn h1 h2 h3 h4) (by intro as e; cases e)
 | tlL h1 h2 h3 h4 => simp only [cellsS,qa] at hc; subst hc; exact one (.tlL h1 h2 h3 h4) (by intro as e; cases e)
 | tlS h1 h2 h3 h4 h5 h6 => simp only [cellsS,qa] at hc; subst hc; exact one (.tlS h1 h2 h3 h4 h5 h6) (by intro as e; cases e)
 | fpI h1 h2 h3 => simp only [cellsS,qa] at hc; subst hc; exact one (.fpI h1 h2 h3) (by intro as e; cases e)
 | fpP h1 h2 h3 h4 => simp only [cellsS,qa] at hc; subst hc; exact one (.fpP h1 h2 h3 h4) (by intro as e; cases e)
 | tlN => simp only [cellsS,qa] at hc; subst hc; exact one .tlN (by intro as e; cases e)
 | i k n => simp only [cellsS,qa] at hc; subst hc; exact one (.i k n) (by intro as e; cases e)
 | b k => simp only [cellsS,qa] at hc; subst hc; exact one (.b k) (by intro as e; cases e)
 | s k => simp only [cellsS,qa] at hc; subst hc; exact one (.s k) (by intro as e; cases e)
 | iface k => simp only [cellsS,qa] at hc; subst hc; exact one (.iface k) (by intro as e; cases e)
 | ptr k => simp only [cellsS,qa] at hc; subst hc; exact one (.ptr k) (by intro as e; cases e)
 | ep k => simp only [cellsS,qa] at hc; subst hc; exact one (.ep k) (by intro as e; cases e)
 | sl k => simp only [cellsS,qa] at hc; subst hc; exact one (.sl k) (by intro as e; cases e)
 | mapr k => simp only [cellsS,qa] at hc; subst hc; exact one (.mapr k) (by intro as e; cases e)
theorem oneS_ok {x : SV C.T} {a : AVal} (h : Er E x a) (hc : oneS x = true) : a.one = true := by
 cases h <;> simp only [oneS] at hc <;> first
  | rfl
  | exact hc
  | (cases hc; done)
  | (rename_i hs
     cases a <;> simp only [isSlB] at hs <;> first | rfl | (cases hs; done))
theorem oneS_all {xs : List (SV C.T)} {as : List AVal} (h : Ers E xs as) (hc : xs.all oneS = true) : as.all AVal.one = true := by
 rw [List.all_eq_true] at hc ⊢
 intro a ha
 obtain ⟨i,hi⟩ := List.mem_iff_getElem?.1 ha
 have hl : i < xs.length := by
  rw [h.1]
  rcases qm i as.length with k | k
  ·exact k
  ·rw [qr k] at hi; cases hi
 exact oneS_ok (h.2 i _ a (qt hl) hi) (hc _ (List.getElem_mem hl))
section
variable {P : Program}
theorem partS_ok {t : TypeId} {cs : List (SV C.T)} {as rest : List AVal} {off : Nat} {x : SV C.T} (h : Ers E cs as) (hx : partS P t cs off = some x) : ∃ a,partA P t (as ++ rest) off = some a ∧ Er E x a := by
 unfold partS at hx
 unfold partA
 have aggr : ∀ {z : Nat},(if off + z ≤ cs.length then some (SV.agg ((cs.drop off).take z)) else none) = some x →
  ∃ a,(if off + z ≤ (as ++ rest).length then some (AVal.agg (((as ++ rest).drop off).take z)) else none) = some a ∧ Er E x a := by
  intro z hx
  split at hx
  ·rename_i hle
   simp only [qa] at hx
   subst hx
   have hl := h.1
   rw [if_pos (by simp; omega)]
   refine ⟨_,rfl, ?_⟩
   rw [List.drop_append_of_le_length (by omega),List.take_append_of_le_length (by simp; omega)]
   have := (h.drop off).take z
   exact .agg this.1 this.2
  ·cases hx
 split at hx
 ·rename_i hu
  rw [hu]
  exact aggr hx
 ·rename_i hu
  rw [hu]
  exact aggr hx
 ·rename_i h1 h2 hu
  rw [hu]
  obtain ⟨a,ha,hr⟩ := h.get hx
  have hlt : off < as.length := by
   rcases qm off as.length with k | k
   ·exact k
   ·rw [qr k] at ha; cases ha
  have ha' : (as ++ rest)[off]? = some a := by rw [qg hlt]; exact ha
  split
  ·rename_i e; exact (h1 _ (Option.some.inj e)).elim
  ·rename_i e; exact (h2 _ _ (Option.some.inj e)).elim
  ·exact ⟨a,ha',hr⟩
  ·rename_i e; cases e
 ·cases hx
theorem partS_ok' {t : TypeId} {cs : List (SV C.T)} {as : List AVal} {off : Nat} {x : SV C.T} (h : Ers E cs as) (hx : partS P t cs off = some x) : ∃ a,partA P t as off = some a ∧ Er E x a := by
 obtain ⟨a,h1,h2⟩ := partS_ok (rest := []) h hx
 rw [List.append_nil] at h1
 exact ⟨a,h1,h2⟩
theorem chain_ok {j : Int} {K : Nat → Tree} : ∀ {n : Nat},(chain j K n).holds → 0 ≤ j → j < (n : Int) → ∃ m : Nat,j = m ∧ m < n ∧ (K m).holds
 | 0,h,_,_ => (stuck_no h).elim
 | 1,h,h0,h1 => ⟨0,by omega,by omega,h⟩
 | m + 2,h,h0,h1 => by
  rcases fork_cases h with ⟨h2,h3⟩ | ⟨h2,h3⟩
  ·exact ⟨m + 1,by simpa using h2,by omega,h3⟩
  ·have hne : j ≠ ((m + 1 : Nat) : Int) := by simpa using h2
   obtain ⟨k,h4,h5,h6⟩ := chain_ok h3 h0 (by omega)
   exact ⟨k,h4,by omega,h6⟩
theorem idxK_ok {x : SV C.T} {a : AVal} {len : Nat} {K : Nat → Tree} (h : Er E x a) (hk : (idxK x len K).holds) : ∃ j,idxA a = some j ∧ j < len ∧ (K j).holds := by
 unfold idxK at hk
 split at hk
 ·cases h
  split at hk
  ·rename_i m
   cases hb : Nat.blt m len with
   | true =>
    rw [hb] at hk
    exact ⟨m,by simp [idxA],by rw [Nat.blt_eq] at hb; exact hb,hk⟩
   | false => rw [hb] at hk; exact qa1 hk
  ·exact qa1 hk
 ·cases h
  obtain ⟨⟨h1,h2⟩,h3⟩ := hk
  obtain ⟨m,rfl,h4,h5⟩ := chain_ok h3 h1 h2
  exact ⟨m,by simp [idxA],h4,h5⟩
 ·exact qa1 hk
theorem intOf_ok {x : SV C.T} {a : AVal} {k : IntKind} {n : Int} (h : Er E x a) (hk : intOf x = some (k,n)) : a = .int k n := by
 cases h <;> simp only [intOf] at hk <;> first
  | (cases hk; rfl)
  | (cases hk; done)
  | (cases a <;> simp only at hk <;> first | (cases hk; rfl) | (cases hk; done))
theorem strOf_ok {x : SV C.T} {a : AVal} {s : List UInt8} (h : Er E x a) (hk : strOf x = some s) : a = .str s := by
 cases h <;> simp only [strOf] at hk <;> first
  | (cases hk; rfl)
  | (cases hk; done)
  | (cases a <;> simp only at hk <;> first | (cases hk; rfl) | (cases hk; done))
theorem boolOf_ok {x : SV C.T} {a : AVal} {s : Bool} (h : Er E x a) (hk : boolOf x = some s) : a = .bool s := by
 cases h <;> simp only [boolOf] at hk <;> first
  | (cases hk; rfl)
  | (cases hk; done)
  | (cases a <;> simp only at hk <;> first | (cases hk; rfl) | (cases hk; done))
theorem litV_ok {x : SV C.T} {a v : AVal} (h : Er E x a) (e : litV x = some v) : a = v := by
 unfold litV at e
 split at e <;> first
  | (cases h; cases e; rfl)
  | (cases e; done)
  | skip
 cases e
 cases h with
 | iface h => cases h; rfl
theorem nkS_ok {x : SV C.T} {a : AVal} {p : NK × Bool} (h : Er E x a) (hk : nkS x = some p) : nk a = some p := by
 cases h <;> simp only [nkS] at hk <;> first
  | exact hk
  | (cases hk; done)
theorem divS_ok {op : BinOp} {k : IntKind} {m n : Int} {lit : Bool} {K : SV C.T → Tree} (h : (divS op k m n lit K).holds) (ho : op = .quo ∨ op = .rem) : Ret E (intBin op k m n) K := by
 unfold divS at h
 have key : n ≠ 0 → (match op with
  | .quo => K (.i k (k.wrap (m.tdiv n)))
  | _ => K (.i k (m.tmod n))).holds → Ret E (intBin op k m n) K := by
  intro hn h
  rcases ho with rfl | rfl
  ·exact ⟨_,_,by simp [intBin,hn],.i _ _,h⟩
  ·exact ⟨_,_,by simp [intBin,hn],.i _ _,h⟩
 cases lit with
 | true =>
  simp only [cond_true] at h
  split at h
  ·exact qa1 h
  ·rename_i hn
   refine key (fun e => ?_) h
   subst e
   exact hn rfl
 | false =>
  simp only [cond_false] at h
  exact key h.1 h.2
theorem intBinS_ok {op : BinOp} {k k' : IntKind} {m n : Int} {lit : Bool} {t : TypeId} {l : Bool} {K : SV C.T → Tree} (h : (intBinS op k k' m n lit K).holds) : Ret E (binA P op t l (.int k m) (.int k' n)) K := by
 have gen : ∀ {op : BinOp},(∀ k m n,binA P op t l (.int k m) (.int k' n) = if k = k' then intBin op k m n else none) → (if k = k' then opt (intBin op k m n) "no such operation" fun v => K (liftV v) else Tree.stuck "kinds").holds → Ret E (binA P op t l (.int k m) (.int k' n)) K := by
  intro op he h
  rw [he]
  split at h
  ·rename_i hk
   rw [if_pos hk]
   obtain ⟨v,h1,h2⟩ := opt_some h
   exact ⟨v,_,h1,.lift v,h2⟩
  ·exact qa1 h
 have dv : ∀ {op : BinOp},(op = .quo ∨ op = .rem) → (∀ k m n,binA P op t l (.int k m) (.int k' n) = if k = k' then intBin op k m n else none) → (if k = k' then divS op k m n lit K else Tree.stuck "kinds").holds → Ret E (binA P op t l (.int k m) (.int k' n)) K := by
  intro op ho he h
  rw [he]
  split at h
  ·rename_i hk
   rw [if_pos hk]
   exact divS_ok h ho
  ·exact qa1 h
 cases op <;> simp only [intBinS] at h <;> first
  | exact gen (fun _ _ _ => rfl) h
  | exact dv (.inl rfl) (fun _ _ _ => rfl) h
  | exact dv (.inr rfl) (fun _ _ _ => rfl) h
  | (simp only [shS] at h
     obtain ⟨h1,h2⟩ := h
     refine ⟨_,_, ?_,.i _ _,h2⟩
     simp only [binA,shiftA]
     rw [if_neg (by omega)])
theorem strBinS_ok {op : BinOp} {x y : List UInt8} {t : TypeId} {l : Bool} {K : SV C.T → Tree} (h : (strBinS op x y K).holds) : Ret E (binA P op t l (.str x) (.str y)) K := by
 have gen : ∀ {op : BinOp},binA P op t l (.str x) (.str y) = strBin op x y → (opt (strBin op x y) "no such operation" fun v => K (liftV v)).holds → Ret E (binA P op t l (.str x) (.str y)) K := by
  intro op he h
  rw [he]
  obtain ⟨v,h1,h2⟩ := opt_some h
  exact ⟨v,_,h1,.lift v,h2⟩
 cases op <;> simp only [strBinS] at h <;> first
  | exact gen rfl h
  | (obtain ⟨h1,h2⟩ := h
     refine ⟨_,_, ?_,.s _,h2⟩
     simp only [binA,strBin]
     rw [if_neg (by omega)])
theorem boolBinS_ok {op : BinOp} {x y : Bool} {t : TypeId} {l : Bool} {K : SV C.T → Tree} (h : (boolBinS P op t x y K).holds) : Ret E (binA P op t l (.bool x) (.bool y)) K := by
 unfold boolBinS at h
 cases hb : boolB P t with
 | false => rw [hb] at h; exact qa1 h
 | true =>
  rw [hb] at h
  simp only [cond_true] at h
  cases op <;> first
   | exact qa1 h
   | exact ⟨_,_,by simp [binA,eqA,hb],.b _,h⟩
theorem eqA_nk {t : TypeId} {l : Bool} {x y : AVal} {p q : NK × Bool} (hx : nk x = some p) (hy : nk y = some q) (hc : p.1 = q.1 ∧ (p.2 = true ∨ q.2 = true) ∧ nkOk P t p.1 = true ∧ (l = true ∨ p.1 ≠ .i ∨ p.2 = false ∨ q.2 = false)) : eqA P t l x y = some (p.2 && q.2) := by
 obtain ⟨k1,n1⟩ := p
 obtain ⟨k2,n2⟩ := q
 unfold eqA
 split
 ·cases hx
 ·cases hx
 ·rename_i u a v b
  simp only [nk,qa,qe] at hx hy
  obtain ⟨rfl,rfl⟩ := hx
  obtain ⟨rfl,rfl⟩ := hy
  simp at hc
 ·rw [hx,hy]
  simp only
  rw [if_pos hc]
theorem nilBinS_ok {op : BinOp} {x y : AVal} {p q : NK × Bool} {t : TypeId} {l : Bool} {K : SV C.T → Tree} (hx : nk x = some p) (hy : nk y = some q) (h : (nilBinS P op t l p q K).holds) : Ret E (binA P op t l x y) K := by
 unfold nilBinS at h
 split at h
 ·rename_i hc
  have he := eqA_nk hx hy hc
  have hni : ∀ k n,x ≠ .int k n := fun k n e => by subst e; cases hx
  have hns : ∀ s,x ≠ .str s := fun s e => by subst e; cases hx
  cases op <;> first
   | exact qa1 h
   | (refine ⟨_,_, ?_,.a _,h⟩
      unfold binA
      split
      ·exact (hni _ _ rfl).elim
      ·exact (hns _ rfl).elim
      ·simp only [he,Option.map_some])
 ·exact qa1 h
theorem toA_ok {x : SV C.T} {a v : AVal} (h : Er E x a) (hk : toA x = some v) : a = v := by
 cases h <;> simp only [toA] at hk <;> first
  | (cases hk; done)
  | (simp only [qa] at hk; exact hk)
theorem toAs_ok : ∀ {cs : List (SV C.T)} {l vs : List AVal},cs.length = l.length → (∀ (i : Nat) (x : SV C.T) (a : AVal),cs[i]? = some x → l[i]? = some a → Er E x a) → toAs cs = some vs → l = vs
 | [],l,vs,hl,_,hk => by
  simp only [toAs,qa] at hk
  subst hk
  exact List.length_eq_zero_iff.1 hl.symm
 | x :: cs,[],vs,hl,_,_ => by simp at hl
 | x :: cs,a :: l,vs,hl,he,hk => by
  simp only [toAs] at hk
  split at hk
  ·rename_i b m h1 h2
   simp only [qa] at hk
   subst hk
   have e1 := toA_ok (he 0 x a rfl rfl) h1
   have e2 := toAs_ok (l := l) (by simpa using hl) (fun i y b h3 h4 => he (i + 1) y b (by simpa using h3) (by simpa using h4)) h2
   rw [e1,e2]
  ·cases hk
theorem aggA_ok {x : SV C.T} {a : AVal} {l : List AVal} (h : Er E x a) (hk : aggA x = some l) : a = .agg l := by
 unfold aggA at hk
 split at hk
 ·cases h with
  | agg h1 h2 => rw [toAs_ok h1 h2 hk]
 ·cases h
  rw [Option.some.inj hk]
 ·cases hk
theorem tlNilS_ok {op : BinOp} {t : TypeId} {l : Bool} {x y : SV C.T} {a b : AVal} {K : SV C.T → Tree} (hx : Er E x a) (hy : Er E y b) (h : (tlNilS P op t l x y K).holds) : Ret E (binA P op t l a b) K := by
 unfold tlNilS at h
 split at h
 ·rename_i n rows
  cases hy
  have key : ∀ q : Bool,nk a = some (.s,q) → (q = true → rows = []) → Ret E (binA P op t l a .nils) K := by
   intro q hq hl
   have hq' : (nilBinS P op t l (.s,q) (.s,true) K).holds := by
    cases q with
    | true => exact h.1 (hl rfl)
    | false => exact h.2
   exact nilBinS_ok (E := E) (y := .nils) hq rfl hq'
  cases hx with
  | tlN => exact key true rfl fun _ => rfl
  | tlL h1 h2 h3 h4 => exact key false rfl nofun
  | tlS h1 h2 h3 h4 h5 h6 => exact key false rfl nofun
 ·exact qa1 h
theorem binS_ok {op : BinOp} {t : TypeId} {l : Bool} {x y : SV C.T} {a b : AVal} {K : SV C.T → Tree} (hx : Er E x a) (hy : Er E y b) (h : (binS P op t l x y K).holds) : Ret E (binA P op t l a b) K := by
 unfold binS at h
 cases hl : isLit x && isLit y with
 | true =>
  rw [hl] at h
  simp only [cond_true] at h
  split at h
  ·cases hx
   cases hy
   obtain ⟨v,h1,h2⟩ := opt_some h
   exact ⟨v,_,h1,.lift v,h2⟩
  ·cases hx
   cases hy
   obtain ⟨v,h1,h2⟩ := opt_some h
   exact ⟨v,_,h1,.a v,h2⟩
  ·exact qa1 h
 | false =>
  rw [hl] at h
  simp only [cond_false] at h
  split at h
  ·rename_i k m k' n h1 h2
   rw [intOf_ok hx h1,intOf_ok hy h2]
   exact intBinS_ok h
  ·split at h
   ·rename_i s s' h1 h2
    rw [strOf_ok hx h1,strOf_ok hy h2]
    exact strBinS_ok h
   ·split at h
    ·rename_i s s' h1 h2
     rw [boolOf_ok hx h1,boolOf_ok hy h2]
     exact boolBinS_ok h
    ·split at h
     ·rename_i p q h1 h2
      exact nilBinS_ok (nkS_ok hx h1) (nkS_ok hy h2) h
     ·split at h
      ·rename_i l1 l2 h1 h2
       rw [aggA_ok hx h1,aggA_ok hy h2]
       obtain ⟨v,h3,h4⟩ := opt_some h
       exact ⟨v,_,h3,.lift v,h4⟩
      ·exact tlNilS_ok hx hy h
theorem unS_ok {op : UnOp} {x : SV C.T} {a : AVal} {K : SV C.T → Tree} (hx : Er E x a) (h : (unS op x K).holds) : Ret E (unA op a) K := by
 unfold unS at h
 split at h
 ·cases hx
  obtain ⟨v,h1,h2⟩ := opt_some h
  exact ⟨v,_,h1,.a v,h2⟩
 ·cases hx
  obtain ⟨v,h1,h2⟩ := opt_some h
  exact ⟨v,_,h1,.lift v,h2⟩
 ·cases hx
  obtain ⟨v,h1,h2⟩ := opt_some h
  exact ⟨v,_,h1,.lift v,h2⟩
 ·exact qa1 h
theorem fieldAddrS_ok {t : TypeId} {f : Nat} {x : SV C.T} {a : AVal} {K : SV C.T → Tree} (hx : Er E x a) (h : (fieldAddrS P t x f K).holds) : Ret E (fieldAddrA P t a f) K := by
 unfold fieldAddrS at h
 unfold fieldAddrA
 split at h
 ·rename_i fs hu
  rw [hu]
  simp only
  split at h
  ·rename_i fd hf
   rw [hf]
   simp only
   split at h
   ·rename_i hc
    rw [if_pos hc]
    split at h
    ·cases hx with
     | ptr hb => exact ⟨_,_,rfl,.ptr hb,h⟩
    ·cases hx with
     | ep hb =>
      refine ⟨_,_,rfl, ?_,h⟩
      rw [Nat.add_assoc _ _ fd.offset]
      exact .ep hb
    ·split at h
     ·rename_i hle
      cases hx with
      | fpI e hl hr =>
       subst e
       have hh : Ers E _ _ := ⟨hl,hr⟩
       have := hh.drop fd.offset
       refine ⟨_,_,rfl,.fpI (List.drop_append_of_le_length (by omega)) this.1 this.2,h⟩
      | fpP hf e hl hr =>
       have hh : Ers E _ _ := ⟨hl,hr⟩
       have := hh.drop fd.offset
       exact ⟨_,_,rfl,.fpP hf (by rw [← List.drop_drop,e,List.drop_append_of_le_length (by omega)]) this.1 this.2,h⟩
     ·exact qa1 h
    ·cases hx
     exact ⟨_,_,rfl,.a _,h⟩
    ·cases hx
     exact ⟨_,_,rfl,.a _,h⟩
    ·exact qa1 h
   ·exact qa1 h
  ·exact qa1 h
 ·exact qa1 h
theorem fieldS_ok {t : TypeId} {f : Nat} {x : SV C.T} {a : AVal} {K : SV C.T → Tree} (hx : Er E x a) (h : (fieldS P t x f K).holds) : Ret E (fieldA P t a f) K := by
 unfold fieldS at h
 unfold fieldA
 split at h
 ·rename_i fs hu
  rw [hu]
  split at h
  ·rename_i fd hf
   split at h
   ·rename_i hc
    split at h
    ·cases hx with
     | agg hl hr =>
      obtain ⟨v,h1,h2⟩ := opt_some h
      obtain ⟨w,h3,h4⟩ := partS_ok' (E := E) ⟨hl,hr⟩ h1
      simp only [hf]
      rw [if_pos hc]
      exact ⟨w,v,h3,h4,h2⟩
    ·cases hx
     obtain ⟨v,h1,h2⟩ := opt_some h
     simp only [hf]
     rw [if_pos hc]
     exact ⟨v,_,h1,.a v,h2⟩
    ·exact qa1 h
   ·exact qa1 h
  ·exact qa1 h
 ·exact qa1 h
theorem Codec.at_get {n : Nat} {l : List (C.T n)} {j : Int} (h0 : 0 ≤ j) (h1 : j < (l.length : Int)) : l[j.toNat]? = some (C.at n l j) := by
 have : j.toNat < l.length := by omega
 unfold Codec.at
 rw [qi,qt this]
 rfl
end
end Go.Sy

/- The quiet operations on symbolic values are sound, second half. Generic: over any program. -/
namespace Go.Sy
open Go.Am
set_option linter.unusedVariables false
variable {C : Codec} {E : Env} {P : Program}
theorem hget_some {h : SH C} {id : Nat} {o : Obj C.T} (e : hget h id = some o) : h[id]? = some (some o) := by
 unfold hget at e
 split at e
 ·rename_i o' ho
  simp only [qa] at e
  rw [ho,e]
 ·cases e
structure CodecOk (C : Codec) : Prop where
 len : ∀ (n : Nat) (x : C.T n),(C.enc n x).length = C.sz n
 one : ∀ (n : Nat) (x : C.T n),(C.enc n x).all oneS = true
 ids : ∀ (n : Nat) (x : C.T n),(C.enc n x).all noId = true
 flat : ∀ (n : Nat) (x : C.T n),C.flat n = true → (C.enc n x).all scal = true
 dec : ∀ (n : Nat) (cs : List (SV C.T)) (x : C.T n),C.dec n cs = some x → ∀ (E : Env) (as : List AVal),Ers E cs as → Ers E (C.enc n x) as
theorem Ers.of_at {n : Nat} {l : List (C.T n)} {as : List AVal} {off i : Nat} {y : C.T n} (hC : CodecOk C) (h : ∀ (i : Nat) (y : C.T n) (j : Nat) (x : SV C.T) (a : AVal),l[i]? = some y → (C.enc n y)[j]? = some x → as[off + i * C.sz n + j]? = some a → Er E x a)
 (hy : l[i]? = some y) (hl : off + i * C.sz n + C.sz n ≤ as.length) : Ers E (C.enc n y) ((as.drop (off + i * C.sz n)).take (C.sz n)) := by
 refine ⟨by rw [hC.len]; simp; omega,fun j x a h1 h2 => ?_⟩
 rw [qx] at h2
 split at h2
 ·rw [qw] at h2
  exact h i y j x a hy h1 h2
 ·cases h2
theorem mul_le_of {i n z : Nat} (h : i < n) : i * z + z ≤ n * z := by
 have : (i + 1) * z ≤ n * z := Nat.mul_le_mul_right _ h
 rw [Nat.add_mul,Nat.one_mul] at this
 exact this
theorem drop_take_split {as : List AVal} {o z : Nat} : as.drop o = (as.drop o).take z ++ as.drop (o + z) := by
 rw [← List.drop_drop,List.take_append_drop]
theorem indexAddrS_ok {lo wlo : Nat} (hC : CodecOk C) {t : TypeId} {h : SH C} {H : Heap} (hH : SimH E lo wlo h H) {x i : SV C.T} {a b : AVal} {K : SV C.T → Tree} (hx : Er E x a) (hi : Er E i b)
 (hh : (indexAddrS P t h x i K).holds) : Ret E (indexAddrA P t a b) K := by
 unfold indexAddrS at hh
 split at hh
 ·rename_i len e hu
  split at hh
  ·rename_i hc
   split at hh
   ·cases hx with
    | ptr hb =>
     obtain ⟨j,h1,h2,h3⟩ := idxK_ok hi hh
     refine ⟨_,_, ?_,.ptr hb,h3⟩
     simp only [indexAddrA,h1,hu,h2,hc,and_self,if_true]
   ·obtain ⟨j,h1,h2,h3⟩ := idxK_ok hi hh
    split at h3
    ·rename_i hle
     cases hx with
     | fpI e1 hl hr =>
      rename_i as all rest
      subst e1
      have hE : Ers E _ _ := ⟨hl,hr⟩
      have := hE.drop (j * szOf P e)
      refine ⟨_,_, ?_,.fpI (rest := rest) (List.drop_append_of_le_length (by omega)) this.1 this.2,h3⟩
      simp only [indexAddrA,h1,hu,h2,hc,and_self,if_true]
     | fpP hf e1 hl hr =>
      rename_i as all rest b off
      have hE : Ers E _ _ := ⟨hl,hr⟩
      have := hE.drop (j * szOf P e)
      have e2 : all.drop (off + j * szOf P e) = as.drop (j * szOf P e) ++ rest := by rw [← List.drop_drop,e1,List.drop_append_of_le_length (by omega)]
      refine ⟨.ptr b (off + j * szOf P e),_, ?_,.fpP (rest := rest) hf e2 this.1 this.2,h3⟩
      simp only [indexAddrA,h1,hu,h2,hc,and_self,if_true]
    ·exact qa1 h3
   ·cases hx
    obtain ⟨j,h1,h2,h3⟩ := idxK_ok hi hh
    refine ⟨_,_, ?_,.a _,h3⟩
    simp only [indexAddrA,h1,hu,h2,hc,and_self,if_true]
   ·exact qa1 hh
  ·exact qa1 hh
 ·rename_i e hu
  split at hh
  ·rename_i hc
   split at hh
   ·rename_i n l
    split at hh
    ·rename_i hsz
     split at hh
     ·rename_i k j hj
      obtain ⟨⟨h0,h1⟩,h2⟩ := hh
      rw [intOf_ok hi hj]
      have hat := Codec.at_get (C := C) h0 h1
      have hidx : idxA (.int k j) = some j.toNat := by simp [idxA,h0]
      cases hx with
      | tlN => simp at h1; omega
      | tlL hz hl hs hr =>
       rename_i z rows ex
       have hlt : j.toNat < rows.length := by omega
       have hrow : rows[j.toNat]? = some rows[j.toNat] := qt hlt
       refine ⟨.ipt rows[j.toNat],_, ?_,.fpI (rest := []) (List.append_nil _).symm ?_ (fun p q r g1 g2 => hr j.toNat _ _ p q r hat hrow g1 g2),h2⟩
       ·simp only [indexAddrA,hidx,hu,hc,if_true,hz,hsz,hrow,Option.map_some]
       ·rw [hC.len,hs _ _ hrow]
      | tlS hz hl hf ho hcap hr =>
       rename_i z b off len cap as ex
       have hm := mul_le_of (z := C.sz n) (show j.toNat < l.length by omega)
       have hE := Ers.of_at hC hr hat (by omega)
       refine ⟨.ptr b (off + j.toNat * C.sz n),_, ?_,.fpP hf drop_take_split hE.1 hE.2,h2⟩
       simp only [indexAddrA,hidx,hu,hc,if_true,hz,hsz]
       rw [if_pos ⟨trivial,by omega⟩]
     ·exact qa1 hh
    ·exact qa1 hh
   ·rename_i id
    split at hh
    ·rename_i n l full root ho
     split at hh
     ·rename_i hsz
      split at hh
      ·rename_i k j hj
       obtain ⟨⟨h0,h1⟩,h2⟩ := hh
       rw [intOf_ok hi hj]
       have hidx : idxA (.int k j) = some j.toNat := by simp [idxA,h0]
       cases hx with
       | R hg hs =>
        rcases hH.obj id _ (hget_some ho) with ⟨rfl,_⟩ | ⟨b,off,cap,ex,as,g1,g2,_,g3,g4,g5,g6,g7,g8⟩
        ·simp at h1; omega
        ·rw [hg] at g1
         simp only [qa] at g1
         subst g1
         refine ⟨.ptr b (off + j.toNat * C.sz n),_, ?_,.ep (off := 0) hg,h2⟩
         simp only [indexAddrA,hidx,hu,hc,if_true,hsz]
         rw [if_pos ⟨trivial,by omega⟩]
      ·exact qa1 hh
     ·exact qa1 hh
    ·exact qa1 hh
   ·split at hh
    ·rename_i sz id off len cap ex hsz
     cases hx with
     | sl hb =>
      obtain ⟨j,h1,h2,h3⟩ := idxK_ok hi hh
      refine ⟨_,_, ?_,.ptr hb,h3⟩
      simp only [indexAddrA,h1,hu,hc,if_true,hsz]
      rw [if_pos ⟨trivial,h2⟩]
    ·exact qa1 hh
   ·split at hh
    ·rename_i sz rows ex hsz
     cases hx
     obtain ⟨j,h1,h2,h3⟩ := idxK_ok hi hh
     obtain ⟨r,h4,h5⟩ := opt_some h3
     refine ⟨_,_, ?_,.a _,h5⟩
     simp only [indexAddrA,h1,hu,hc,if_true,hsz,h4,Option.map_some]
    ·exact qa1 hh
   ·exact qa1 hh
  ·exact qa1 hh
 ·exact qa1 hh
theorem indexS_ok {t : TypeId} {x i : SV C.T} {a b : AVal} {K : SV C.T → Tree} (hx : Er E x a) (hi : Er E i b) (hh : (indexS P t x i K).holds) : Ret E (indexA P t a b) K := by
 unfold indexS at hh
 split at hh
 ·rename_i len e hu
  split at hh
  ·rename_i hc
   split at hh
   ·cases hx with
    | agg hl hr =>
     obtain ⟨j,h1,h2,h3⟩ := idxK_ok hi hh
     obtain ⟨v,h4,h5⟩ := opt_some h3
     obtain ⟨w,h6,h7⟩ := partS_ok' (E := E) ⟨hl,hr⟩ h4
     exact ⟨w,v,by simp only [indexA,h1,hu,h2,hc,and_self,if_true,h6],h7,h5⟩
   ·cases hx
    obtain ⟨j,h1,h2,h3⟩ := idxK_ok hi hh
    obtain ⟨v,h4,h5⟩ := opt_some h3
    exact ⟨v,_,by simp only [indexA,h1,hu,h2,hc,and_self,if_true,h4],.a v,h5⟩
   ·exact qa1 hh
  ·exact qa1 hh
 ·rename_i hu
  split at hh
  ·cases hx
   cases hi
   split at hh
   ·obtain ⟨v,h4,h5⟩ := opt_some hh
    exact ⟨_,_,by simp [indexA,idxA,hu,h4],.a _,h5⟩
   ·exact qa1 hh
  ·split at hh
   ·rename_i s k j h1 h2
    rw [strOf_ok hx h1,intOf_ok hi h2]
    obtain ⟨⟨h3,h4⟩,h5⟩ := hh
    have hlt : j.toNat < s.length := by omega
    refine ⟨_,_, ?_,.i _ _,h5⟩
    simp only [indexA,idxA,h3,if_true,hu,qt hlt,Option.map_some]
    simp [qi,hlt]
   ·exact qa1 hh
 ·exact qa1 hh
theorem lenS_ok {lo wlo : Nat} {t : TypeId} {h : SH C} {H : Heap} (hH : SimH E lo wlo h H) {x : SV C.T} {a : AVal} {K : SV C.T → Tree} (hx : Er E x a) (hh : (lenS P t h x K).holds) : Ret E (lenA P t H a) K := by
 unfold lenS at hh
 split at hh
 ·rename_i hu
  split at hh
  ·cases hx
   exact ⟨_,_,by simp [lenA,hu],.a _,hh⟩
  ·cases hx
   exact ⟨_,_,by simp [lenA,hu],.i _ _,hh⟩
  ·exact qa1 hh
 ·rename_i n e hu
  split at hh
  ·exact qa1 hh
  ·exact qa1 hh
  ·exact qa1 hh
  ·rename_i h1 h2 h3
   refine ⟨.int .i64 n,_, ?_,.a _,hh⟩
   have hm : ∀ b,a ≠ .mapr b := by
    rintro b rfl
    cases hx with
    | a => exact h3 b rfl
    | mapr => exact h1 _ rfl
    | any => exact h2 rfl
    | R _ hs => simp [isSlB] at hs
   unfold lenA
   rw [hu]
   split <;> simp_all
 ·rename_i e hu
  split at hh
  ·cases hx
   exact ⟨_,_,by simp [lenA,hu],.a _,hh⟩
  ·cases hx
   exact ⟨_,_,by simp [lenA,hu],.a _,hh⟩
  ·cases hx with
   | sl hb => exact ⟨_,_,by simp [lenA,hu],.a _,hh⟩
  ·cases hx with
   | tlN => exact ⟨_,_,by simp [lenA,hu],.i _ _,hh⟩
   | tlL h1 h2 => exact ⟨_,_,by simp [lenA,hu,h2],.i _ _,hh⟩
   | tlS h1 h2 => exact ⟨_,_,by simp [lenA,hu,h2],.i _ _,hh⟩
  ·rename_i id
   split at hh
   ·rename_i n l full root ho
    cases hx with
    | R hg hs =>
     rcases hH.obj id _ (hget_some ho) with ⟨rfl,_,a',g1,g2⟩ | ⟨b,off,cap,ex,as,g1,_⟩
     ·rw [hg] at g1
      simp only [qa] at g1
      subst g1
      rcases g2 with rfl | rfl
      ·exact ⟨_,_,by simp [lenA,hu],.i _ _,hh⟩
      ·exact ⟨_,_,by simp [lenA,hu],.i _ _,hh⟩
     ·rw [hg] at g1
      simp only [qa] at g1
      subst g1
      exact ⟨_,_,by simp [lenA,hu],.i _ _,hh⟩
   ·exact qa1 hh
  ·exact qa1 hh
 ·exact qa1 hh
theorem loadS_ok {lo wlo : Nat} (hC : CodecOk C) {t : TypeId} {h : SH C} {H : Heap} (hH : SimH E lo wlo h H) {x : SV C.T} {a : AVal} {K : SV C.T → Tree} (hx : Er E x a) (hh : (loadS P t h x K).holds) : Ret E (loadA P t H a) K := by
 unfold loadS at hh
 split at hh
 ·rename_i id off
  split at hh
  ·rename_i cs ho
   split at hh
   ·rename_i hle
    obtain ⟨v,h1,h2⟩ := opt_some hh
    cases hx with
    | ptr hb =>
     rename_i b
     obtain ⟨b',as,g1,_,g2,g3⟩ := hH.obj id _ (hget_some ho)
     rw [hb] at g1
     simp only [qa] at g1
     subst g1
     obtain ⟨w,h3,h4⟩ := partS_ok' (g3.drop off) h1
     exact ⟨w,v,by simp only [loadA,atA,g2,Option.bind_some,h3],h4,h2⟩
   ·exact qa1 hh
  ·exact qa1 hh
 ·rename_i id i off
  split at hh
  ·rename_i n l full root ho
   obtain ⟨⟨h0,h1⟩,hh⟩ := hh
   split at hh
   ·rename_i hle
    obtain ⟨v,h2,h3⟩ := opt_some hh
    have hat := Codec.at_get (C := C) h0 h1
    cases hx with
    | ep hg =>
     rename_i z b o len cap ex
     rcases hH.obj id _ (hget_some ho) with ⟨rfl,_⟩ | ⟨b',off',cap',ex',as,g1,g2,_,g3,g4,g5,g6,g7,g8⟩
     ·simp at h1; omega
     ·rw [hg] at g1
      simp only [qa,AVal.sl.injEq] at g1
      obtain ⟨rfl,rfl,rfl,rfl,rfl,rfl⟩ := g1
      have hm := mul_le_of (z := C.sz n) (show i.toNat < l.length by omega)
      have hc := Nat.mul_le_mul_right (C.sz n) g4
      have hE := (Ers.of_at hC g8 hat (by omega)).drop off
      rw [List.drop_take] at hE
      obtain ⟨w,h4,h5⟩ := partS_ok (rest := as.drop (o + i.toNat * C.sz n + C.sz n)) hE h2
      have e : as.drop (o + i.toNat * C.sz n + off) = ((as.drop (o + i.toNat * C.sz n)).drop off).take (C.sz n - off) ++ as.drop (o + i.toNat * C.sz n + C.sz n) := by
       rw [List.drop_drop,show o + i.toNat * C.sz n + C.sz n = (o + i.toNat * C.sz n + off) + (C.sz n - off) by omega,← List.drop_drop (l := as) (i := C.sz n - off),List.take_append_drop]
      exact ⟨w,v,by simp only [loadA,atA,g3,Option.bind_some]; rw [e]; exact h4,h5,h3⟩
   ·exact qa1 hh
  ·exact qa1 hh
 ·obtain ⟨v,h1,h2⟩ := opt_some hh
  cases hx with
  | fpI e hl hr =>
   subst e
   obtain ⟨w,h3,h4⟩ := partS_ok (E := E) ⟨hl,hr⟩ h1
   exact ⟨w,v,by simp only [loadA,atA,Option.bind_some]; exact h3,h4,h2⟩
  | fpP hf e hl hr =>
   obtain ⟨w,h3,h4⟩ := partS_ok (E := E) ⟨hl,hr⟩ h1
   have := (hH.fr _ _ hf).1
   exact ⟨w,v,by simp only [loadA,atA,this,Option.bind_some,e]; exact h3,h4,h2⟩
 ·cases hx
  obtain ⟨v,h1,h2⟩ := opt_some hh
  exact ⟨v,_,by simp only [loadA,atA,Option.bind_some,h1],.a v,h2⟩
 ·cases hx
  obtain ⟨v,h1,h2⟩ := opt_some hh
  exact ⟨v,_,by simp only [loadA,atA,Option.bind_some,h1],.a v,h2⟩
 ·exact qa1 hh
theorem strOfA_nil {s d : TypeId} {v r : AVal} (h : strOfA P s d [] v = some r) (H : Heap) : strOfA P s d H v = some r := by
 unfold strOfA at h ⊢
 split at h
 ·rename_i hs hd
  split at h
  ·exact h
  ·exact h
  ·simp at h
  ·cases h
 ·cases h
theorem convHA_nil {s d : TypeId} {v r : AVal} (h : convHA P s d [] v = some r) (H : Heap) : convHA P s d H v = some r := by
 unfold convHA at h ⊢
 cases e : convA P s d v with
 | some x => rw [e] at h; exact h
 | none => rw [e] at h; exact strOfA_nil h H
theorem bytes_ok : ∀ (n : Nat) {xs : List (SV C.T)} {ys : List AVal} {bs : List UInt8},Ers E xs ys → n ≤ xs.length → bytesS (xs.take n) = some bs → bytesOf? (chunk 1 n ys) = some bs
 | 0,xs,ys,bs,hE,hn,h => by
  simp only [List.take_zero,bytesS,qa] at h
  subst h
  rfl
 | n + 1,[],ys,bs,hE,hn,h => by simp at hn
 | n + 1,x :: xs,ys,bs,hE,hn,h => by
  obtain ⟨a,ys,rfl,h1,hE⟩ := hE.inv_cons
  simp only [List.take_succ_cons,bytesS] at h
  split at h
  ·rename_i m hi
   rw [qd] at h
   obtain ⟨cs,h2,rfl⟩ := h
   have := bytes_ok n hE (by simpa using hn) h2
   rw [intOf_ok h1 hi]
   show (bytesOf? (chunk 1 n ys)).map _ = _
   rw [this]
   rfl
  ·cases h
theorem bytes_rows {n : Nat} : ∀ {l : List (C.T n)} {as : List AVal},(∀ y,y ∈ l → ∃ x m,C.enc n y = [x] ∧ intOf x = some (.u8,m)) → l.length ≤ as.length → (∀ (i : Nat) (y : C.T n) (x : SV C.T) (a : AVal),l[i]? = some y → (C.enc n y)[0]? = some x → as[i]? = some a → Er E x a) → bytesOf? (chunk 1 l.length as) = some (l.map (byteR C n))
 | [],as,_,_,_ => rfl
 | y :: l,[],_,hl,_ => by simp at hl
 | y :: l,a :: as,h,hl,hE => by
  obtain ⟨x,m,h1,h2⟩ := h y (by simp)
  have h3 := hE 0 y x a rfl (by rw [h1]; rfl) rfl
  have ih := bytes_rows (l := l) (as := as) (fun z hz => h z (List.mem_cons_of_mem _ hz)) (by simpa using hl) (fun i z x a q1 q2 q3 => hE (i + 1) z x a q1 q2 q3)
  rw [intOf_ok h3 h2]
  show (bytesOf? (chunk 1 l.length as)).map _ = _
  rw [ih]
  simp only [Option.map_some,List.map_cons,byteR,h1,h2]
theorem convS_ok {s d : TypeId} {h : SH C} {lo wlo : Nat} {H : Heap} (hS : SimH E lo wlo h H) {x : SV C.T} {a : AVal} {K : SV C.T → Tree} (hx : Er E x a) (hh : (convS P s d h x K).holds) : Ret E (convHA P s d H a) K := by
 unfold convS at hh
 split at hh
 ·cases hx
  obtain ⟨v,h1,h2⟩ := opt_some hh
  exact ⟨v,_,convHA_nil h1 H,.a v,h2⟩
 ·cases hx
  split at hh
  ·rename_i hs hd
   exact ⟨_,_,by simp [convHA,convA,hs,hd],.i _ _,hh⟩
  ·exact qa1 hh
 ·cases hx
  split at hh
  ·rename_i hs hd
   exact ⟨_,_,by simp [convHA,convA,hs,hd],.s _,hh⟩
  ·exact qa1 hh
 ·rename_i sz id off len cap ex
  cases hx with
  | sl hβ =>
  rename_i b
  split at hh
  ·rename_i e cs hs hd ho
   split at hh
   ·rename_i he
    split at hh
    ·rename_i hc
     split at hh
     ·rename_i bs hbs
      obtain ⟨rfl,hl⟩ := hc
      obtain ⟨b',ys,g1,gw,g2,g3⟩ := hS.obj id _ (hget_some ho)
      rw [hβ] at g1
      simp only [qa] at g1
      subst g1
      have hlen := g3.1
      have := bytes_ok len (g3.drop off) (by rw [List.length_drop]; omega) hbs
      refine ⟨.str bs,_, ?_,.s _,hh⟩
      simp only [convHA,convA,hs,hd,strOfA,he,g2]
      rw [if_pos (show off + len ≤ ys.length by omega),this]
      rfl
     ·exact qa1 hh
    ·exact qa1 hh
   ·exact qa1 hh
  ·exact qa1 hh
 ·rename_i id
  cases hx with
  | R hγ _ =>
  split at hh
  ·rename_i e n l full root hs hd ho
   split at hh
   ·rename_i he
    split at hh
    ·rename_i hz
     obtain ⟨hb,hh⟩ := hh
     refine ⟨.str (l.map (byteR C n)),_, ?_,.s _,hh⟩
     rcases hS.obj id _ (hget_some ho) with ⟨rfl,_,a',g1,g2⟩ | ⟨b,off,cap,ex,as,g1,g2,gw,g3,g4,g5,g6,g7,g8⟩
     ·rw [hγ] at g1
      simp only [qa] at g1
      subst g1
      rcases g2 with rfl | rfl
      ·simp only [convHA,convA,hs,hd,strOfA,he]
       rfl
      ·simp only [convHA,convA,hs,hd,strOfA,he,hz,if_true]
       rfl
     ·rw [hγ] at g1
      simp only [qa] at g1
      subst g1
      rw [hz,Nat.mul_one] at g5
      have := bytes_rows (E := E) (l := l) (as := as.drop off) hb (by rw [List.length_drop]; omega) (fun i y x a q1 q2 q3 => g8 i y 0 x a q1 q2 (by rw [hz,Nat.mul_one,Nat.add_zero,← qw]; exact q3))
      simp only [convHA,convA,hs,hd,strOfA,he,g3,hz]
      rw [if_pos trivial,if_pos (show off + l.length ≤ as.length by omega),this]
      rfl
    ·exact qa1 hh
   ·exact qa1 hh
  ·exact qa1 hh
 ·exact qa1 hh
theorem typeAssertS_ok {x : SV C.T} {a : AVal} {t : TypeId} {ok : Bool} {K : SV C.T → Tree} (hx : Er E x a) (hh : (typeAssertS P x t ok K).holds) : Ret E (typeAssertA P a t ok) K := by
 unfold typeAssertS at hh
 have two : ∀ {x y : SV C.T} {a b : AVal},Er E x a → Er E y b → Er E (.tup [x,y]) (.tup [a,b]) := fun h k => .tup rfl (Ers.nil.cons k |>.cons h).2
 split at hh
 ·cases hx
  obtain ⟨v,h1,h2⟩ := opt_some hh
  exact ⟨v,_,h1,.a v,h2⟩
 ·cases hx with
  | iface hv =>
   rename_i u x a
   simp only [typeAssertA]
   split at hh
   ·rename_i want hu
    simp only [hu]
    split at hh
    ·rename_i i hi
     simp only [hi]
     split at hh
     ·rename_i hl
      rw [if_pos hl]
      split at hh
      ·rename_i hok
       obtain ⟨z,h1,h2⟩ := opt_some hh
       exact ⟨_,_,by rw [if_pos hok,h1]; rfl,two (.a z) (.a _),h2⟩
      ·exact qa1 hh
     ·rename_i hl
      rw [if_neg hl]
      refine ⟨_,_,rfl, ?_,hh⟩
      split
      ·exact two (.iface hv) (.a _)
      ·exact .iface hv
    ·exact qa1 hh
   ·rename_i hne hu
    have e : ∀ (z : Option AVal),(match P.underlying t with
     | some (.interface want) => z
     | some _ => if u = t then some (if ok = true then .tup [a,.bool true] else a) else if ok = true then (zeroA P t).map fun z => .tup [z,.bool false] else none
     | none => none) = if u = t then some (if ok = true then AVal.tup [a,.bool true] else a) else if ok = true then (zeroA P t).map fun z => .tup [z,.bool false] else none := by
     intro z
     split
     ·rename_i w e; rw [e] at hu; exact (hne _ (Option.some.inj hu).symm).elim
     ·rfl
     ·rename_i e; rw [e] at hu; cases hu
    split
    ·rename_i w e; rw [e] at hu; exact (hne _ (Option.some.inj hu).symm).elim
    ·split at hh
     ·rename_i hut
      rw [if_pos hut]
      refine ⟨_,_,rfl, ?_,hh⟩
      split
      ·exact two hv (.a _)
      ·exact hv
     ·rename_i hut
      rw [if_neg hut]
      split at hh
      ·rename_i hok
       obtain ⟨z,h1,h2⟩ := opt_some hh
       exact ⟨_,_,by rw [if_pos hok,h1]; rfl,two (.a z) (.a _),h2⟩
      ·exact qa1 hh
    ·rename_i e; rw [e] at hu; cases hu
   ·exact qa1 hh
 ·exact qa1 hh
inductive PartsOk (E : Env) : List (Nat × SV C.T) → List (Nat × AVal) → Prop
 | nil : PartsOk E [] []
 | cons {i : Nat} {x : SV C.T} {a : AVal} {xs : List (Nat × SV C.T)} {as : List (Nat × AVal)} : Er E x a → PartsOk E xs as → PartsOk E ((i,x) :: xs) ((i,a) :: as)
theorem fillS_ok {place : Nat → Option (Nat × Nat)} : ∀ {parts : List (Nat × SV C.T)} {as : List (Nat × AVal)} {cells : List (SV C.T)} {ca : List AVal} {r : List (SV C.T)},PartsOk E parts as → Ers E cells ca → fillS place cells parts = some r → ∃ ra,fillA place ca as = some ra ∧ Ers E r ra
 | [],_,cells,ca,r,hp,hc,h => by
  cases hp
  simp only [fillS,qa] at h
  subst h
  exact ⟨ca,rfl,hc⟩
 | (i,v) :: rest,_,cells,ca,r,hp,hc,h => by
  cases hp with
  | cons hv hp =>
   rename_i a as
   simp only [fillS] at h
   split at h
   ·cases h
   ·rename_i off size hpl
    split at h
    ·cases h
    ·rename_i vs hvs
     have hE := cellsS_ok hv hvs
     split at h
     ·cases h
     ·rename_i hne
      simp only [not_or,Decidable.not_not,Bool.not_eq_true,Bool.not_eq_false'] at hne
      obtain ⟨h1,h2,h3⟩ := hne
      have ho := oneS_all hE h3
      obtain ⟨ra,h4,h5⟩ := fillS_ok hp (((hc.take off).append hE).append (hc.drop (off + vs.length))) h
      refine ⟨ra, ?_,h5⟩
      have hl1 := hE.1
      have hl2 := hc.1
      simp only [fillA,hpl]
      rw [if_neg (by simp only [not_or,Decidable.not_not,Bool.not_eq_true,Bool.not_eq_false']; exact ⟨by omega,by omega,ho⟩)]
      rw [← hl1]
      exact h4
theorem buildS_ok {t : TypeId} {parts : List (Nat × SV C.T)} {as : List (Nat × AVal)} {K : SV C.T → Tree} (hp : PartsOk E parts as) (hh : (buildS P t parts K).holds) : Ret E (buildA P t as) K := by
 unfold buildS at hh
 unfold buildA
 split at hh
 ·exact qa1 hh
 ·rename_i z hz
  simp only [hz]
  split at hh
  ·exact qa1 hh
  ·rename_i hall
   rw [if_neg hall]
   split at hh
   ·rename_i fs hu
    simp only [hu]
    split at hh
    ·rename_i hc
     rw [if_pos hc]
     obtain ⟨cs,h1,h2⟩ := opt_some hh
     obtain ⟨ra,h3,h4⟩ := fillS_ok hp (Ers.mapA z.cells) h1
     exact ⟨_,_,by rw [h3]; rfl,.agg h4.1 h4.2,h2⟩
    ·exact qa1 hh
   ·rename_i n e hu
    simp only [hu]
    split at hh
    ·rename_i hc
     rw [if_pos hc]
     obtain ⟨cs,h1,h2⟩ := opt_some hh
     obtain ⟨ra,h3,h4⟩ := fillS_ok hp (Ers.mapA z.cells) h1
     exact ⟨_,_,by rw [h3]; rfl,.agg h4.1 h4.2,h2⟩
    ·exact qa1 hh
   ·exact qa1 hh
end Go.Sy

/- A run over symbolic values: what is owed comes out as a tree. Generic: over any program. -/
namespace Go.Sy
open Go.Am
set_option linter.unusedVariables false
variable {C : Codec}
def bndN {T : Nat → Type} (d : Nat) : Option (SV T) → Option Nat
 | none => some d
 | some (.a (.int _ (.ofNat m))) => some m
 | _ => none
def bndI {T : Nat → Type} (d : Int) : Option (SV T) → Option Int
 | none => some d
 | some v => (intOf v).map (·.2)
def litO {T : Nat → Type} : Option (SV T) → Option (Option AVal)
 | none => some none
 | some (.a v) => some (some v)
 | _ => none
def sliceS (P : Program) (wlo : Nat) (t : TypeId) (h : SH C) (x : SV C.T) (lo hi mx : Option (SV C.T)) (K : SV C.T → SH C → Tree) : Tree :=
 match x with
 | .a v => match litO lo,litO hi,litO mx with
  | some lo,some hi,some mx => opt (sliceA P t [] v lo hi mx) "slice" fun r => K (.a r) h
  | _,_,_ => match strOf x,mx,P.underlying t with
   | some s,none,some .string => match bndI 0 lo,bndI s.length hi with
    | some l,some u => .need (0 ≤ l ∧ l ≤ u ∧ u ≤ (s.length : Int)) (K (.s ((s.drop l.toNat).take (u.toNat - l.toNat))) h)
    | _,_ => .stuck "slice"
   | _,_,_ => .stuck "slice"
 | .s s => match mx,P.underlying t with
  | none,some .string => match bndI 0 lo,bndI s.length hi with
   | some l,some u => .need (0 ≤ l ∧ l ≤ u ∧ u ≤ (s.length : Int)) (K (.s ((s.drop l.toNat).take (u.toNat - l.toNat))) h)
   | _,_ => .stuck "slice"
  | _,_ => .stuck "slice"
 | .tl n l => match P.underlying t with
  | some (.slice e) => if (P.info? e).isSome ∧ C.sz n = szOf P e then
   match mx with
   | none => match bndI 0 lo,bndI l.length hi with
    | some p,some u => .need (0 ≤ p ∧ p ≤ u ∧ u ≤ (l.length : Int)) (K (.tl n ((l.drop p.toNat).take (u.toNat - p.toNat))) h)
    | _,_ => .stuck "slice"
   | some m => match bndN 0 lo,hi,bndN 0 (some m) with
    | some 0,some u,some 0 => match bndN 0 (some u) with
     | some 0 => K (.R h.length) (h ++ [some (.rows n [] true h.length)])
     | _ => .stuck "slice"
    | _,_,_ => .stuck "slice"
   else .stuck "slice"
  | _ => .stuck "slice"
 | .R id => match P.underlying t,mx,hget h id with
  | some (.slice e),none,some (.rows n l full root) => if (P.info? e).isSome ∧ C.sz n = szOf P e ∧ wlo ≤ id then
   match bndI 0 lo,bndI l.length hi with
   | some p,some u => .need (0 ≤ p ∧ p ≤ u ∧ u ≤ (l.length : Int)) (K (.R h.length) (h.set id none ++ [some (.rows n ((l.drop p.toNat).take (u.toNat - p.toNat)) (full && hi.isNone) root)]))
   | _,_ => .stuck "slice"
   else .stuck "slice"
  | _,_,_ => .stuck "slice"
 | .sl sz id off len cap ex => match P.underlying t with
  | some (.slice e) => if (P.info? e).isSome ∧ sz = szOf P e then
   match mx with
   | none => match bndN 0 lo,bndN len hi with
    | some p,some u => if p ≤ u ∧ u ≤ cap then K (.sl sz id (off + p * sz) (u - p) (cap - p) ex) h else .stuck "slice"
    | _,_ => .stuck "slice"
   | some m => match bndN 0 lo,hi,bndN 0 (some m) with
    | some p,some u,some m => match bndN 0 (some u) with
     | some u => if p ≤ u ∧ u ≤ m ∧ m ≤ cap then (bif Nat.ble m p then K (.a (.list sz [] true)) h else K (.sl sz id (off + p * sz) (u - p) (m - p) true) h) else .stuck "slice"
     | none => .stuck "slice"
    | _,_,_ => .stuck "slice"
   else .stuck "slice"
  | _ => .stuck "slice"
 | .ptr id off => match P.underlying t,mx,hget h id with
  | some (.array n e),none,some (.cells cs) => if (P.info? e).isSome ∧ off + n * szOf P e ≤ cs.length then
   match bndN 0 lo,bndN n hi with
   | some p,some u => if p ≤ u ∧ u ≤ n then K (.sl (szOf P e) id (off + p * szOf P e) (u - p) (n - p) true) h else .stuck "slice"
   | _,_ => .stuck "slice"
   else .stuck "slice"
  | _,_,_ => .stuck "slice"
 | _ => .stuck "slice"
def pickS {T : Nat → Type} (c a b : SV T) (K : SV T → Tree) : Tree :=
 match c with
 | .a (.bool true) => K a
 | .a (.bool false) => K b
 | .b t => .fork t (K a) (K b)
 | _ => .stuck "pick"
def nilCheckS {T : Nat → Type} (x : SV T) (K : SV T → Tree) : Tree :=
 match x with
 | .ptr id off => K (.ptr id off)
 | .ep id i off => K (.ep id i off)
 | .fp cs => K (.fp cs)
 | .fn (.func f) a b => K (.fn (.func f) a b)
 | .a v => opt (nilCheckA v) "nilCheck" fun r => K (.a r)
 | _ => .stuck "nilCheck"
def extractS {T : Nat → Type} (x : SV T) (i : Nat) (K : SV T → Tree) : Tree :=
 match x with
 | .tup vs => opt (vs[i]?) "extract" K
 | .a (.tup vs) => opt (vs[i]?) "extract" fun v => K (.a v)
 | _ => .stuck "extract"
def minS {T : Nat → Type} (mx : Bool) (args : List (SV T)) (K : SV T → Tree) : Tree :=
 match args with
 | [x,y] => match intOf x,intOf y with
  | some (k,m),some (_,n) => bif isLit x && isLit y then K (.a (.int k (bif mx then (if m < n then n else m) else (if n < m then n else m))))
   else K (.i k (bif mx then (if m < n then n else m) else (if n < m then n else m)))
  | _,_ => .stuck "min"
 | _ => .stuck "min"
def lookupS (P : Program) (t : TypeId) (h : SH C) (m x : SV C.T) (ok : Bool) (K : SV C.T → Tree) : Tree := .stuck "lookup"
def quietX (S : AStat) (wlo : Nat) (ev : Operand → SV C.T) (h : SH C) (op : Op) (K : SV C.T → SH C → Tree) : Tree :=
 match op with
 | .move x => K (ev x) h
 | .assign x => K (ev x) h
 | .pick c a b => pickS (ev c) (ev a) (ev b) fun v => K v h
 | .build t parts => buildS S.P t (parts.toList.map fun p => (p.1,ev p.2)) fun v => K v h
 | .load t x => loadS S.P t h (ev x) fun v => K v h
 | .nilCheck x => nilCheckS (ev x) fun v => K v h
 | .binOp op t x y _ => binS S.P op t (litB x || litB y) (ev x) (ev y) fun v => K v h
 | .unOp op _ x => unS op (ev x) fun v => K v h
 | .convert s d x => convS S.P s d h (ev x) fun v => K v h
 | .makeInterface t x => if ifaceB S.P t then .stuck "makeInterface" else K (.iface t (ev x)) h
 | .makeFunc f first captured => K (.fn f (first.toList.map ev) (captured.toList.map ev)) h
 | .slice t x lo hi mx => sliceS S.P wlo t h (ev x) (lo.map ev) (hi.map ev) (mx.map ev) K
 | .fieldAddr t x f => fieldAddrS S.P t (ev x) f fun v => K v h
 | .field t x f => fieldS S.P t (ev x) f fun v => K v h
 | .indexAddr t x i => indexAddrS S.P t h (ev x) (ev i) fun v => K v h
 | .index t x i => indexS S.P t (ev x) (ev i) fun v => K v h
 | .extract x i => extractS (ev x) i fun v => K v h
 | .lookup t m x ok => lookupS S.P t h (ev m) (ev x) ok fun v => K v h
 | .typeAssert x _ t ok => typeAssertS S.P (ev x) t ok fun v => K v h
 | .call c => match c.callee with
  | .builtin .len => match c.argTypes[0]?,c.args[0]? with
   | some t,some x => lenS S.P t h (ev x) fun v => K v h
   | _,_ => .stuck "len"
  | .builtin .min => minS false (c.args.toList.map ev) fun v => K v h
  | .builtin .max => minS true (c.args.toList.map ev) fun v => K v h
  | _ => .stuck "quiet call"
 | _ => .stuck "quiet"
def newX (S : AStat) (ev : Operand → SV C.T) (op : Op) (K : (Nat → Obj C.T) → (Nat → SV C.T) → Tree) : Tree :=
 match op with
 | .alloc t => match zeroA S.P t with
  | some z => if z.cells.all AVal.one then K (fun _ => .cells (z.cells.map .a)) (fun id => .ptr id 0) else .stuck "alloc"
  | none => .stuck "alloc"
 | .box _ x => match cellsS (ev x) with
  | some cs => if cs.all oneS then K (fun _ => .cells cs) (fun id => .ptr id 0) else .stuck "box"
  | none => .stuck "box"
 | .buildSlice t len parts => match S.P.underlying t with
  | some (.slice e) => match zeroA S.P e with
   | none => .stuck "buildSlice"
   | some z => if z.cells.length = szOf S.P e ∧ szOf S.P e ≠ 0 ∧ z.cells.all AVal.one ∧ len * szOf S.P e ≤ 16777216 then
    match fillS (fun i => some (i * szOf S.P e,szOf S.P e)) (((List.replicate len z.cells).flatten).map .a) (parts.toList.map fun p => (p.1,ev p.2)) with
    | some cs => K (fun _ => .cells cs) (fun id => .sl (szOf S.P e) id 0 len len false)
    | none => .stuck "buildSlice: parts"
    else .stuck "buildSlice"
  | _ => .stuck "buildSlice"
 | .makeSlice t l c => match S.P.underlying t with
  | some (.slice e) => match zeroA S.P e with
   | none => .stuck "makeSlice"
   | some z => if z.cells.length = szOf S.P e ∧ szOf S.P e ≠ 0 ∧ z.cells.all AVal.one then
    match bndN 0 (some (ev l)),bndN 0 (some (ev c)) with
    | some l,some c => if l ≤ c ∧ c * S.P.bytesOf e ≤ 281474976710656 ∧ c ≤ 9223372036854775807 then
     K (fun _ => .cells (((List.replicate c z.cells).flatten).map .a)) (fun id => .sl (szOf S.P e) id 0 l c true) else .stuck "makeSlice"
    | _,_ => match intOf (ev l),intOf (ev c),C.ofTy e with
     | some (_,l),some (_,c),some n => match C.dec n (z.cells.map .a) with
      | some x => if C.sz n = szOf S.P e then .need (0 ≤ l ∧ l = c ∧ c * S.P.bytesOf e ≤ 281474976710656 ∧ c ≤ 9223372036854775807) (K (fun id => .rows n (List.replicate l.toNat x) true id) (fun id => .R id)) else .stuck "makeSlice"
      | none => .stuck "makeSlice"
     | _,_,_ => .stuck "makeSlice"
    else .stuck "makeSlice"
  | _ => .stuck "makeSlice"
 | .makeMap _ none => K (fun _ => .mp []) (fun id => .mapr id)
 | .range t x => match S.P.underlying t,strOf (ev x) with
  | some .string,some s => K (fun _ => .it s 0) (fun id => .ptr id 0)
  | _,_ => .stuck "range"
 | _ => .stuck "new"
def byteOf (C : Codec) (n : Nat) (b : UInt8) : C.T n := (C.dec n [.i .u8 b.toNat]).getD (C.dflt n)
def isBytesB (P : Program) (op : Op) : Bool :=
 match op with
 | .convert s d _ => match P.underlying s,P.underlying d with
  | some .string,some (.slice _) => true
  | _,_ => false
 | _ => false
def bytesX (P : Program) (ev : Operand → SV C.T) (op : Op) (K : (Nat → Obj C.T) → (Nat → SV C.T) → Tree) : Tree :=
 match op with
 | .convert s d x => match P.underlying s,P.underlying d,strOf (ev x) with
  | some .string,some (.slice e),some t => match P.underlying e,C.ofTy e with
   | some (.int .u8),some n => if C.sz n = 1 then .need (∀ b : UInt8,(C.dec n [.i .u8 b.toNat]).isSome = true) (K (fun id => .rows n (t.map (byteOf C n)) true id) (fun id => .R id)) else .stuck "bytes"
   | _,_ => .stuck "bytes"
  | _,_,_ => .stuck "bytes"
 | _ => .stuck "bytes"
def storeX (P : Program) (wlo : Nat) (t : TypeId) (h : SH C) (x v : SV C.T) (K : SV C.T → SH C → Tree) : Tree :=
 match cellsS v with
 | none => .stuck "store"
 | some vs =>
  if vs.length = szOf P t ∧ (P.info? t).isSome ∧ vs.all oneS then
   match x with
   | .ptr id off => match hget h id with
    | some (.cells cs) => if wlo ≤ id ∧ off + vs.length ≤ cs.length then K (.a undefA) (h.set id (some (.cells (cs.take off ++ vs ++ cs.drop (off + vs.length))))) else .stuck "store: not one's own"
    | _ => .stuck "store: gone"
   | .ep id i off => match hget h id with
    | some (.rows n l full root) => if wlo ≤ id ∧ off + vs.length ≤ C.sz n then
     match C.dec n ((C.enc n (C.at n l i)).take off ++ vs ++ (C.enc n (C.at n l i)).drop (off + vs.length)) with
     | some y => .need (0 ≤ i ∧ i < (l.length : Int)) (K (.a undefA) (h.set id (some (.rows n (l.set i.toNat y) full root))))
     | none => .stuck "store: a row"
     else .stuck "store: not one's own"
    | _ => .stuck "store: gone"
   | _ => .stuck "store"
  else .stuck "store: cells"
def chunkS {T : Nat → Type} (sz : Nat) : Nat → List (SV T) → List (List (SV T))
 | 0,_ => []
 | n + 1,cs => cs.take sz :: chunkS sz n (cs.drop sz)
def decAll (n : Nat) : List (List (SV C.T)) → Option (List (C.T n))
 | [] => some []
 | r :: rs => match C.dec n r with
  | none => none
  | some x => match decAll n rs with
   | none => none
   | some xs => some (x :: xs)
inductive Src (C : Codec) where
 | lit (rows : List (List (SV C.T)))
 | typ (n : Nat) (l : List (C.T n))
 | no
def srcS (h : SH C) (sz : Nat) (x : SV C.T) : Src C :=
 match x with
 | .a .nils => .lit []
 | .a (.list s rows _) => if s = sz ∧ (rows.all fun r => r.length == sz) then .lit (rows.map (List.map .a)) else .no
 | .a (.str s) => if sz = 1 then .lit (s.map fun b => [.a (.int .u8 b.toNat)]) else .no
 | .sl s id off len _ _ => if s = sz then
  match hget h id with
  | some (.cells cs) => if off + len * sz ≤ cs.length then .lit (chunkS sz len (cs.drop off)) else .no
  | _ => .no
  else .no
 | .tl n l => if C.sz n = sz then .typ n l else .no
 | .R id => match hget h id with
  | some (.rows n l _ _) => if C.sz n = sz then .typ n l else .no
  | _ => .no
 | _ => .no
def castL {C : Codec} {n m : Nat} (e : n = m) (l : List (C.T n)) : List (C.T m) := e ▸ l
def appendX (P : Program) (wlo : Nat) (t u : TypeId) (h : SH C) (s x : SV C.T) (K : SV C.T → SH C → Tree) : Tree :=
 match P.underlying t with
 | some (.slice e) =>
  if (P.info? e).isSome ∧ szOf P e ≠ 0 ∧ notIntB P u = true ∧ zeroFits P e = true ∧ P.bytesOf e ≠ 0 then
   match srcS h (szOf P e) x with
   | .no => .stuck "append: what"
   | .lit rows =>
    if !(rows.flatten.all oneS) then .stuck "append: cells" else
    match s with
    | .a .nils =>
     if rows.length = 0 then K (.a .nils) h
     else if rows.length * P.bytesOf e ≤ 140737488355328 then K (.sl (szOf P e) h.length 0 rows.length rows.length false) (h ++ [some (.cells rows.flatten)])
     else .stuck "append: size"
    | .sl s0 id off len cap ex =>
     if s0 ≠ szOf P e then .stuck "append: size" else
     match hget h id with
     | some (.cells cs) =>
      if off + len * szOf P e ≤ cs.length then
       if rows.length = 0 then K (.sl s0 id off len cap ex) h
       else if len + rows.length ≤ cap then
        if wlo ≤ id ∧ off + (len + rows.length) * szOf P e ≤ cs.length then
         K (.sl (szOf P e) id off (len + rows.length) cap ex) (h.set id (some (.cells (cs.take (off + len * szOf P e) ++ rows.flatten ++ cs.drop (off + len * szOf P e + rows.flatten.length)))))
        else .stuck "append: not one's own"
       else if (len + rows.length) * P.bytesOf e ≤ 140737488355328 then
        bif ex then K (.sl (szOf P e) h.length 0 (len + rows.length) (len + rows.length) false) (h ++ [some (.cells ((cs.drop off).take (len * szOf P e) ++ rows.flatten))])
        else if wlo ≤ id ∧ off + len * szOf P e = cs.length then K (.sl (szOf P e) h.length 0 (len + rows.length) (len + rows.length) false) (h.set id none ++ [some (.cells (cs.drop off ++ rows.flatten))])
        else .stuck "append: not one's own"
       else .stuck "append: size"
      else .stuck "append: size"
     | _ => .stuck "append: gone"
    | .R id => match hget h id with
     | some (.rows n l full root) =>
      if C.sz n = szOf P e ∧ wlo ≤ id then
       match decAll n rows with
       | none => .stuck "append: a row"
       | some xs => match xs with
        | [] => K (.R id) h
        | y :: ys => if full = true ∨ ys.length = 0 then
         .need ((l.length + (y :: ys).length) * P.bytesOf e ≤ 140737488355328) (K (.R h.length) (h.set id none ++ [some (.rows n (l ++ y :: ys) full root)]))
         else .stuck "append: how much room"
      else .stuck "append: not one's own"
     | _ => .stuck "append: gone"
    | _ => .stuck "append: to what"
   | .typ n l' =>
    match s with
    | .a .nils => .need (l'.length * P.bytesOf e ≤ 140737488355328) (K (.R h.length) (h ++ [some (.rows n l' true h.length)]))
    | .R id => match hget h id with
     | some (.rows m l full root) =>
      if C.sz m = szOf P e ∧ wlo ≤ id ∧ full = true then
       if em : n = m then .need ((l.length + l'.length) * P.bytesOf e ≤ 140737488355328) (K (.R h.length) (h.set id none ++ [some (.rows m (l ++ castL em l') full root)]))
       else .stuck "append: rows of two kinds"
      else .stuck "append: not one's own"
     | _ => .stuck "append: gone"
    | .sl s0 id off len cap ex => match hget h id with
     | some (.cells cs) =>
      if s0 = szOf P e ∧ wlo ≤ id ∧ off + len * szOf P e = cs.length ∧ cap = len ∧ ex = false then
       match decAll n (chunkS (szOf P e) len (cs.drop off)) with
       | none => .stuck "append: a row"
       | some xs => .need ((xs.length + l'.length) * P.bytesOf e ≤ 140737488355328) (K (.R h.length) (h.set id none ++ [some (.rows n (xs ++ l') true id)]))
      else .stuck "append: to what"
     | _ => .stuck "append: gone"
    | _ => .stuck "append: to what"
  else .stuck "append: types"
 | _ => .stuck "append: types"
abbrev CallX (C : Codec) := Nat → FuncId → List (SV C.T) → SH C → (SV C.T → SH C → Tree) → Tree
def litsS {T : Nat → Type} : List (SV T) → Option (List AVal)
 | [] => some []
 | .a v :: xs => (litsS xs).map (v :: ·)
 | _ :: _ => none
def ifaceS {T : Nat → Type} : SV T → Option (TypeId × SV T)
 | .iface t v => some (t,v)
 | .a (.iface t v) => some (t,.a v)
 | _ => none
def callG (S : AStat) (noExt : FuncId → Bool) (call : CallX C) (wlo : Nat) (g : FuncId) (xs : List (SV C.T)) (h : SH C) (K : SV C.T → SH C → Tree) : Tree :=
 bif noExt g then call wlo g xs h K else match litsS xs with
 | some as => match S.ext g as with
  | some v => K (.a v) h
  | none => .stuck "ext"
 | none => .stuck "ext"
def mapUpdX (P : Program) (wlo : Nat) (t : TypeId) (h : SH C) (m x v : SV C.T) (K : SV C.T → SH C → Tree) : Tree := .stuck "mapUpdate"
def nextX (wlo : Nat) (h : SH C) (x : SV C.T) (isString : Bool) (K : SV C.T → SH C → Tree) : Tree := .stuck "next"
def effX (S : AStat) (noExt : FuncId → Bool) (call : CallX C) (wlo : Nat) (ev : Operand → SV C.T) (h : SH C) (op : Op) (K : SV C.T → SH C → Tree) : Tree :=
 match op with
 | .store t x v => storeX S.P wlo t h (ev x) (ev v) K
 | .mapUpdate t m x v => mapUpdX S.P wlo t h (ev m) (ev x) (ev v) K
 | .next x isString => nextX wlo h (ev x) isString K
 | .call c => match c.callee with
  | .builtin .append => match c.args.toList.map ev,c.argTypes.toList with
   | [s,x],[t,u] => appendX S.P wlo t u h s x K
   | _,_ => .stuck "append"
  | .value f => match ev f with
   | .a (.fn (.func g) first captured) => callG S noExt call wlo g (first.map .a ++ c.args.toList.map ev ++ captured.map .a) h K
   | .fn (.func g) first captured => callG S noExt call wlo g (first ++ c.args.toList.map ev ++ captured) h K
   | _ => .stuck "call of what"
  | .invoke r name => match ifaceS (ev r) with
   | some (t,v) => match S.meth t name,nkS v with
    | some g,some (.p,_) => call wlo g (v :: c.args.toList.map ev) h K
    | _,_ => match v,litsS (c.args.toList.map ev) with
     | .a v0,some as => match S.methV t name v0 with
      | some (g,v1) => match S.ext g (v1 :: as) with
       | some w => K (.a w) h
       | none => .stuck "ext"
      | none => .stuck "invoke"
     | _,_ => .stuck "invoke"
   | none => .stuck "invoke"
  | _ => .stuck "builtin"
 | _ => .stuck "no such operation"
noncomputable def sPut (r : SR C) (dst : Option Tmp) (v : SV C.T) : SR C :=
 match dst with
 | some d => r.set d v
 | none => r
noncomputable def guardX (ops : List Oper) (r : SR C) (o : Oper) (yes no : SR C → Tree) : Tree :=
 match o.guard with
 | none => yes r
 | some (j,want) =>
  match (ops[j]?).bind (·.dst) with
  | none => no r
  | some d => bif Nat.blt d r.n then
   match r.get d with
   | .a (.bool b) => bif b == want then yes r else no r
   | .a (.tup _) => no r
   | .b t => bif want then .fork t (yes (r.set d (.a (.bool true)))) (no (r.set d (.a (.bool false)))) else .fork t (no (r.set d (.a (.bool true)))) (yes (r.set d (.a (.bool false))))
   | _ => .stuck "guard"
   else no r
structure Cf (C : Codec) where
 S : AStat
 noExt : FuncId → Bool
noncomputable def opX (F : Cf C) (call : CallX C) (wlo : Nat) (r : SR C) (h : SH C) (o : Oper) (K : SV C.T → SH C → Tree) : Tree :=
 bif isNewB o.op then newX F.S (sEval F.S r.get) o.op fun ob mk => K (mk h.length) (h ++ [some (ob h.length)])
 else bif isEffB o.op then effX F.S F.noExt call wlo (sEval F.S r.get) h o.op K
 else bif isBytesB F.S.P o.op then bytesX F.S.P (sEval F.S r.get) o.op fun ob mk => K (mk h.length) (h ++ [some (ob h.length)])
 else quietX F.S wlo (sEval F.S r.get) h o.op K
noncomputable def opsX (F : Cf C) (call : CallX C) (wlo : Nat) (ops : List Oper) : List Oper → SR C → SH C → (SR C → SH C → Tree) → Tree
 | [],r,h,K => K r h
 | o :: rest,r,h,K => guardX ops r o
  (fun r => opX F call wlo r h o fun v h' => opsX F call wlo ops rest (sPut r o.dst v) h' K)
  (fun r => opsX F call wlo ops rest (sPut r o.dst (.a undefA)) h K)
inductive Kt where
 | c (x : Code)
 | blk (id : Nat)
 | lp (b : Code)
def unwind (i : Nat) : List Kt → Option (List Kt)
 | [] => none
 | .blk id :: k => bif Nat.beq i id then some k else unwind i k
 | .c _ :: k => unwind i k
 | .lp _ :: k => unwind i k
end Go.Sy

/- How the shape of a memory is carried along as objects come, turn and go. Generic: over any program. -/
namespace Go.Sy
open Go.Am
set_option linter.unusedVariables false
variable {C : Codec} {E : Env}
structure LeN (n N : Nat) (E E' : Env) : Prop where
 le : E.le E'
 old : ∀ id,id < n → E'.β id = E.β id ∧ E'.γ id = E.γ id
 fr : ∀ b cs,E'.Fr b cs → E.Fr b cs
 own : ∀ b r,E'.ω b = some r → E.ω b = some r ∨ N ≤ b
theorem LeN.refl {N : Nat} (n : Nat) (E : Env) : LeN n N E E := ⟨Env.le.refl E,fun _ _ => ⟨rfl,rfl⟩,fun _ _ h => h,fun _ _ h => .inl h⟩
theorem LeN.trans {n m N M : Nat} {E E' E'' : Env} (hnm : n ≤ m) (hNM : N ≤ M) (h : LeN n N E E') (k : LeN m M E' E'') : LeN n N E E'' :=
 ⟨h.le.trans k.le,fun id hid => ⟨(k.old id (by omega)).1.trans (h.old id hid).1,(k.old id (by omega)).2.trans (h.old id hid).2⟩,fun b cs x => h.fr b cs (k.fr b cs x),fun b r x => by
  rcases k.own b r x with h1 | h1
  ·exact h.own b r h1
  ·exact .inr (by omega)⟩
def Env.put (E : Env) (n : Nat) (β' : Option Nat) (a : AVal) (root : Nat) : Env where
 β := fun i => if i = n then β' else E.β i
 γ := fun i => if i = n then some a else E.γ i
 ω := fun b => if β' = some b then some root else E.ω b
 Fr := E.Fr
theorem ObjOk.heap {H H' : Heap} {id : Nat} {o : Obj C.T} (hb : ∀ b,E.β id = some b → H'[b]? = H[b]?) (h : ObjOk E H id o) : ObjOk E H' id o := by
 cases o with
 | cells cs =>
  obtain ⟨b,as,h1,hw,h2,h3⟩ := h
  exact ⟨b,as,h1,hw,by rw [hb b h1]; exact h2,h3⟩
 | mp es =>
  obtain ⟨b,as,h1,hw,h2,h3⟩ := h
  exact ⟨b,as,h1,hw,by rw [hb b h1]; exact h2,h3⟩
 | it s pos =>
  obtain ⟨b,h1,hw,h2⟩ := h
  exact ⟨b,h1,hw,by rw [hb b h1]; exact h2⟩
 | rows n l full root =>
  rcases h with h | ⟨b,off,cap,ex,as,h1,h2,hw,h3,h4⟩
  ·exact .inl h
  ·exact .inr ⟨b,off,cap,ex,as,h1,h2,hw,by rw [hb b h2]; exact h3,h4⟩
theorem lt_of_some {α : Type} {l : List α} {i : Nat} {a : α} (h : l[i]? = some a) : i < l.length := by
 rcases qm i l.length with k | k
 ·exact k
 ·rw [qr k] at h; cases h
theorem SimH.putN {lo wlo N : Nat} {h : SH C} {H H' : Heap} (hS : SimH E lo wlo h H) (id : Nat) (o' : Obj C.T) (β' : Option Nat) (a : AVal) (root : Nat) (hl : H.length ≤ H'.length)
 (hX : ∀ b,b < H.length → H'[b]? ≠ H[b]? → (∀ cs,¬ E.Fr b cs) ∧ ∀ (i : Nat) (o : Obj C.T),i ≠ id → h[i]? = some (some o) → E.β i ≠ some b)
 (hb : ∀ b,β' = some b → b < H'.length ∧ lo ≤ b ∧ (∀ cs,¬ E.Fr b cs) ∧ (∀ (i : Nat) (o : Obj C.T),i ≠ id → h[i]? = some (some o) → E.β i ≠ some b) ∧ ((E.ω b = none ∧ N ≤ b) ∨ E.ω b = some root))
 (ho : LeN h.length N E (E.put h.length β' a root) → ObjOk (E.put h.length β' a root) H' h.length o') :
 LeN h.length N E (E.put h.length β' a root) ∧ SimH (E.put h.length β' a root) lo wlo (h.set id none ++ [some o']) H' := by
 have fresh := hS.fresh h.length (qf _)
 have hle : LeN h.length N E (E.put h.length β' a root) := by
  refine ⟨⟨?_, ?_, ?_,fun _ _ h => h⟩, ?_,fun _ _ h => h, ?_⟩
  ·intro i b hi
   simp only [Env.put]
   split
   ·rename_i e; subst e; rw [fresh.1] at hi; cases hi
   ·exact hi
  ·intro i b hi
   simp only [Env.put]
   split
   ·rename_i e; subst e; rw [fresh.2] at hi; cases hi
   ·exact hi
  ·intro b r hr
   simp only [Env.put]
   split
   ·rename_i e
    rcases (hb b e).2.2.2.2 with h1 | h1
    ·rw [h1.1] at hr; cases hr
    ·rw [h1] at hr; exact hr
   ·exact hr
  ·intro i hi
   simp only [Env.put]
   rw [if_neg (by omega),if_neg (by omega)]
   exact ⟨rfl,rfl⟩
  ·intro b r hr
   simp only [Env.put] at hr
   split at hr
   ·rename_i e
    rcases (hb b e).2.2.2.2 with h1 | h1
    ·exact .inr h1.2
    ·left; rw [h1]; exact hr
   ·exact .inl hr
 refine ⟨hle, ?_⟩
 have hold : ∀ (i : Nat) (o : Obj C.T),(h.set id none ++ [some o'])[i]? = some (some o) → (i ≠ id ∧ i < h.length ∧ h[i]? = some (some o)) ∨ (i = h.length ∧ o = o') := by
  intro i o hi
  rcases qm i h.length with k | k
  ·rw [qg (by simpa using k),qh] at hi
   split at hi
   ·split at hi <;> cases hi
   ·rename_i e
    exact .inl ⟨fun x => e x.symm,k,hi⟩
  ·rw [qk (by simpa using k)] at hi
   rw [qz] at hi
   rcases Nat.eq_or_lt_of_le k with e | e
   ·rw [← e] at hi
    simp at hi
    exact .inr ⟨e.symm,hi.symm⟩
   ·rw [qr (by simp; omega)] at hi
    cases hi
 have same : ∀ (i : Nat) (o : Obj C.T),i ≠ id → h[i]? = some (some o) → ∀ b,E.β i = some b → H'[b]? = H[b]? := by
  intro i o h1 h2 b h3
  by_cases e : H'[b]? = H[b]?
  ·exact e
  ·exact ((hX b (hS.bnd i b h3) e).2 i o h1 h2 h3).elim
 refine ⟨?_, ?_, ?_, ?_, ?_, ?_, ?_, ?_, ?_, ?_⟩
 ·intro i o hi
  rcases hold i o hi with ⟨h1,h2,h3⟩ | ⟨rfl,rfl⟩
  ·refine ((hS.obj i o h3).heap (same i o h1 h3)).mono hle.le ?_
   intro hn
   rw [(hle.old i h2).1]
   exact hn
  ·exact ho hle
 ·intro i i' o p b hi hi' hb1 hb2
  rcases hold i o hi with ⟨h1,h2,h3⟩ | ⟨rfl,rfl⟩ <;> rcases hold i' p hi' with ⟨h4,h5,h6⟩ | ⟨h4,rfl⟩
  ·rw [(hle.old i h2).1] at hb1
   rw [(hle.old i' h5).1] at hb2
   exact hS.inj i i' o p b h3 h6 hb1 hb2
  ·rw [(hle.old i h2).1] at hb1
   subst h4
   simp only [Env.put,if_true] at hb2
   exact ((hb b hb2).2.2.2.1 i o h1 h3 hb1).elim
  ·rw [(hle.old i' h5).1] at hb2
   simp only [Env.put,if_true] at hb1
   exact ((hb b hb1).2.2.2.1 i' p h4 h6 hb2).elim
  ·exact h4.symm
 ·intro b cs hf
  obtain ⟨h1,h2⟩ := hS.fr b cs hf
  refine ⟨?_, ?_⟩
  ·by_cases e : H'[b]? = H[b]?
   ·rw [e]; exact h1
   ·exact ((hX b (lt_of_some h1) e).1 cs hf).elim
  ·intro i o hi
   rcases hold i o hi with ⟨h3,h4,h5⟩ | ⟨rfl,rfl⟩
   ·rw [(hle.old i h4).1]
    exact h2 i o h5
   ·simp only [Env.put,if_true]
    exact fun e => (hb b e).2.2.1 cs hf
 ·intro i hi
  have hi : h.length + 1 ≤ i := by simpa using hi
  simp only [Env.put]
  rw [if_neg (by omega),if_neg (by omega)]
  exact hS.fresh i (by omega)
 ·intro i b hi hb1
  simp only [Env.put] at hb1
  split at hb1
  ·exact (hb b hb1).2.1
  ·exact hS.low i b hi hb1
 ·intro i b hb1
  simp only [Env.put] at hb1
  split at hb1
  ·exact (hb b hb1).1
  ·exact qu (hS.bnd i b hb1) hl
 ·intro b r hr
  simp only [Env.put] at hr
  split at hr
  ·rename_i e
   exact ⟨(hb b e).1,(hb b e).2.2.1⟩
  ·exact ⟨qu (hS.own b r hr).1 hl,(hS.own b r hr).2⟩
 ·intro i b hb1
  simp only [Env.put] at hb1 ⊢
  split at hb1
  ·rw [if_pos hb1]
   exact ⟨root,rfl⟩
  ·split
   ·exact ⟨root,rfl⟩
   ·exact hS.βω i b hb1
 ·have := hS.wl
  simp
  omega
 ·exact Nat.le_trans hS.ll hl
theorem SimH.put {lo wlo : Nat} {h : SH C} {H H' : Heap} (hS : SimH E lo wlo h H) (id : Nat) (o' : Obj C.T) (β' : Option Nat) (a : AVal) (root : Nat) (hl : H.length ≤ H'.length)
 (hX : ∀ b,b < H.length → H'[b]? ≠ H[b]? → (∀ cs,¬ E.Fr b cs) ∧ ∀ (i : Nat) (o : Obj C.T),i ≠ id → h[i]? = some (some o) → E.β i ≠ some b)
 (hb : ∀ b,β' = some b → b < H'.length ∧ lo ≤ b ∧ (∀ cs,¬ E.Fr b cs) ∧ (∀ (i : Nat) (o : Obj C.T),i ≠ id → h[i]? = some (some o) → E.β i ≠ some b) ∧ ((E.ω b = none ∧ H.length ≤ b) ∨ E.ω b = some root))
 (ho : LeN h.length H.length E (E.put h.length β' a root) → ObjOk (E.put h.length β' a root) H' h.length o') :
 LeN h.length H.length E (E.put h.length β' a root) ∧ SimH (E.put h.length β' a root) lo wlo (h.set id none ++ [some o']) H' := hS.putN id o' β' a root hl hX hb ho
theorem SimH.upd {lo wlo : Nat} {h : SH C} {H H' : Heap} (hS : SimH E lo wlo h H) {id : Nat} {o o' : Obj C.T} (hid : h[id]? = some (some o)) (hl : H.length ≤ H'.length)
 (hX : ∀ b,b < H.length → H'[b]? ≠ H[b]? → E.β id = some b) (ho : ObjOk E H' id o') : SimH E lo wlo (h.set id (some o')) H' := by
 have hold : ∀ (i : Nat) (p : Obj C.T),(h.set id (some o'))[i]? = some (some p) → (i ≠ id ∧ h[i]? = some (some p)) ∨ (i = id ∧ p = o') := by
  intro i p hi
  rw [qh] at hi
  split at hi
  ·rename_i e
   split at hi
   ·simp only [qa] at hi
    exact .inr ⟨e.symm,hi.symm⟩
   ·cases hi
  ·rename_i e
   exact .inl ⟨fun x => e x.symm,hi⟩
 have live : ∀ (i : Nat) (p : Obj C.T),(h.set id (some o'))[i]? = some (some p) → ∃ q,h[i]? = some (some q) := by
  intro i p hi
  rcases hold i p hi with ⟨_,h2⟩ | ⟨rfl,_⟩
  ·exact ⟨_,h2⟩
  ·exact ⟨_,hid⟩
 refine ⟨?_, ?_, ?_, ?_,hS.low, ?_, ?_,hS.βω, ?_,Nat.le_trans hS.ll hl⟩
 ·intro i p hi
  rcases hold i p hi with ⟨h1,h2⟩ | ⟨rfl,rfl⟩
  ·refine (hS.obj i p h2).heap fun b hb => ?_
   by_cases e : H'[b]? = H[b]?
   ·exact e
   ·exact (h1 (hS.inj i id p o b h2 hid hb (hX b (hS.bnd i b hb) e))).elim
  ·exact ho
 ·intro i i' p q b hi hi' h1 h2
  obtain ⟨p',hp⟩ := live i p hi
  obtain ⟨q',hq⟩ := live i' q hi'
  exact hS.inj i i' p' q' b hp hq h1 h2
 ·intro b cs hf
  obtain ⟨h1,h2⟩ := hS.fr b cs hf
  refine ⟨?_,fun i p hi => ?_⟩
  ·by_cases e : H'[b]? = H[b]?
   ·rw [e]; exact h1
   ·exact (h2 id o hid (hX b (lt_of_some h1) e)).elim
  ·obtain ⟨q,hq⟩ := live i p hi
   exact h2 i q hq
 ·intro i hi
  exact hS.fresh i (by simpa using hi)
 ·intro i b hb
  exact qu (hS.bnd i b hb) hl
 ·intro b r hr
  exact ⟨qu (hS.own b r hr).1 hl,(hS.own b r hr).2⟩
 ·have := hS.wl
  simpa using this
theorem SimH.push {lo wlo : Nat} (N : Nat) {h : SH C} {H H' : Heap} (hS : SimH E lo wlo h H) (o' : Obj C.T) (a : AVal) (p : Nat) (hp : p < H'.length) (hlo : lo ≤ p) (hN : N ≤ p) (hn : H[p]? = none ∨ (H[p]? = some none ∧ E.ω p = none)) (hl : H.length ≤ H'.length)
 (hX : ∀ b,b < H.length → b ≠ p → H'[b]? = H[b]?) (ho : LeN h.length N E (E.put h.length (some p) a h.length) → ObjOk (E.put h.length (some p) a h.length) H' h.length o') :
 LeN h.length N E (E.put h.length (some p) a h.length) ∧ SimH (E.put h.length (some p) a h.length) lo wlo (h ++ [some o']) H' := by
 have nofr : ∀ cs,¬ E.Fr p cs := by
  intro cs hf
  have := (hS.fr p cs hf).1
  rcases hn with h1 | ⟨h1,_⟩ <;> rw [h1] at this <;> cases this
 have noβ : ∀ i,E.β i ≠ some p := by
  intro i hi
  rcases hn with h1 | ⟨_,h2⟩
  ·have := hS.bnd i p hi
   rw [List.getElem?_eq_none_iff] at h1
   omega
  ·obtain ⟨r,hr⟩ := hS.βω i p hi
   rw [h2] at hr
   cases hr
 have noω : E.ω p = none := by
  rcases hn with h1 | ⟨_,h2⟩
  ·cases hw : E.ω p with
   | none => rfl
   | some r =>
    have := (hS.own p r hw).1
    rw [List.getElem?_eq_none_iff] at h1
    omega
  ·exact h2
 have := hS.putN (N := N) h.length o' (some p) a h.length hl (fun b hb hne => by
  by_cases e : b = p
  ·subst e
   exact ⟨nofr,fun i o _ _ => noβ i⟩
  ·exact (hne (hX b hb e)).elim) (fun b hb => by
  simp only [qa] at hb
  subst hb
  exact ⟨hp,hlo,nofr,fun i o _ _ => noβ i,.inl ⟨noω,hN⟩⟩) ho
 have e : h.set h.length none = h := by
  apply List.ext_getElem?
  intro j
  rw [qh]
  split
  ·rename_i hj
   subst hj
   simp
  ·rfl
 rw [e] at this
 exact this
end Go.Sy

/- What makes blocks and turns them, on symbolic values, is sound. Generic: over any program. -/
namespace Go.Sy
open Go.Am
set_option linter.unusedVariables false
variable {C : Codec} {E : Env} {P : Program}
def Out (E : Env) (lo wlo : Nat) (h : SH C) (H : Heap) (r : AVal → Heap → Prop) (K : SV C.T → SH C → Tree) : Prop :=
 ∃ v H' sv h' E',r v H' ∧ LeN h.length H.length E E' ∧ h.length ≤ h'.length ∧ SimH E' lo wlo h' H' ∧ H.length ≤ H'.length ∧ Er E' sv v ∧ (K sv h').holds
theorem Out.mono {lo wlo : Nat} {h : SH C} {H : Heap} {r r' : AVal → Heap → Prop} {K : SV C.T → SH C → Tree} (hr : ∀ v H',r v H' → r' v H') (h1 : Out E lo wlo h H r K) : Out E lo wlo h H r' K := by
 obtain ⟨v,H',sv,h',E',h1,h2⟩ := h1
 exact ⟨v,H',sv,h',E',hr _ _ h1,h2⟩
theorem Out.of_ret {lo wlo : Nat} {h : SH C} {H : Heap} (hS : SimH E lo wlo h H) {x : Option AVal} {K : SV C.T → SH C → Tree} (hr : Ret E x fun v => K v h) : Out E lo wlo h H (fun v H' => x = some v ∧ H' = H) K := by
 obtain ⟨v,sv,h1,h2,h3⟩ := hr
 exact ⟨v,H,sv,h,E,⟨h1,rfl⟩,LeN.refl _ _,qf _,hS,qf _,h2,h3⟩
def RowsEr (E : Env) (z : Nat) (rows : List (List (SV C.T))) (rA : List (List AVal)) : Prop :=
 rows.length = rA.length ∧ ∀ (i : Nat) (r : List (SV C.T)) (ra : List AVal),rows[i]? = some r → rA[i]? = some ra → Ers E r ra ∧ ra.length = z
theorem RowsEr.tail {z : Nat} {r : List (SV C.T)} {rows : List (List (SV C.T))} {ra : List AVal} {rA : List (List AVal)} (h : RowsEr E z (r :: rows) (ra :: rA)) : Ers E r ra ∧ ra.length = z ∧ RowsEr E z rows rA := by
 have h0 := h.2 0 r ra rfl rfl
 exact ⟨h0.1,h0.2,by simpa using h.1,fun i p q h1 h2 => h.2 (i + 1) p q (by simpa using h1) (by simpa using h2)⟩
theorem RowsEr.flatten {z : Nat} : ∀ {rows : List (List (SV C.T))} {rA : List (List AVal)},RowsEr E z rows rA → Ers E rows.flatten rA.flatten
 | [],[],_ => Ers.nil
 | [],_ :: _,h => by simp [RowsEr] at h
 | _ :: _,[],h => by simp [RowsEr] at h
 | r :: rows,ra :: rA,h => by
  obtain ⟨h1,_,h2⟩ := h.tail
  simp only [List.flatten_cons]
  exact h1.append h2.flatten
theorem flat_len {z : Nat} : ∀ {rA : List (List AVal)},(∀ (i : Nat) (ra : List AVal),rA[i]? = some ra → ra.length = z) → rA.flatten.length = rA.length * z
 | [],_ => by simp
 | r :: rA,h => by
  have h0 := h 0 r rfl
  have := flat_len (rA := rA) fun i ra hi => h (i + 1) ra (by simpa using hi)
  simp only [List.flatten_cons,qo,qn,this,h0,Nat.succ_mul]
  omega
theorem flat_get {z : Nat} : ∀ {rA : List (List AVal)} {i j : Nat} {ra : List AVal},(∀ (i : Nat) (ra : List AVal),rA[i]? = some ra → ra.length = z) → rA[i]? = some ra → j < z → rA.flatten[i * z + j]? = ra[j]?
 | [],i,j,ra,_,h,_ => by simp at h
 | r :: rA,0,j,ra,hl,h,hj => by
  simp only [List.getElem?_cons_zero,qa] at h
  subst h
  simp only [List.flatten_cons,Nat.zero_mul,Nat.zero_add]
  rw [qg (by rw [hl 0 r rfl]; exact hj)]
 | r :: rA,i + 1,j,ra,hl,h,hj => by
  have h0 := hl 0 r rfl
  simp only [List.flatten_cons]
  rw [qk (by rw [h0,Nat.succ_mul]; omega)]
  rw [show (i + 1) * z + j - r.length = i * z + j by rw [h0,Nat.succ_mul]; omega]
  exact flat_get (fun k ra hk => hl (k + 1) ra (by simpa using hk)) (by simpa using h) hj
theorem RowsEr.lens {z : Nat} {rows : List (List (SV C.T))} {rA : List (List AVal)} (h : RowsEr E z rows rA) : ∀ (i : Nat) (ra : List AVal),rA[i]? = some ra → ra.length = z := by
 intro i ra hi
 have hl := lt_of_some hi
 exact (h.2 i _ ra (qt (by rw [h.1]; exact hl)) hi).2
theorem chunk_get {z : Nat} : ∀ {n i : Nat} {cs : List AVal},i < n → (chunk z n cs)[i]? = some ((cs.drop (i * z)).take z)
 | 0,i,cs,h => by omega
 | n + 1,0,cs,h => by simp [chunk]
 | n + 1,i + 1,cs,h => by
  simp only [chunk,List.getElem?_cons_succ]
  rw [chunk_get (by omega),List.drop_drop]
  rw [show z + i * z = (i + 1) * z by rw [Nat.succ_mul]; omega]
theorem chunk_len {z : Nat} : ∀ (n : Nat) (cs : List AVal),(chunk z n cs).length = n
 | 0,_ => rfl
 | n + 1,cs => by simp [chunk,chunk_len n]
theorem chunkS_ok {z : Nat} : ∀ {n : Nat} {cs : List (SV C.T)} {as : List AVal},Ers E cs as → n * z ≤ as.length → RowsEr E z (chunkS z n cs) (chunk z n as)
 | 0,cs,as,_,_ => ⟨rfl,fun i r ra h => by simp [chunkS] at h⟩
 | n + 1,cs,as,h,hl => by
  have hz : z + n * z ≤ as.length := by rw [Nat.succ_mul] at hl; omega
  have ih := chunkS_ok (z := z) (n := n) (h.drop z) (by simp; omega)
  refine ⟨by simp only [chunkS,chunk,qn,ih.1],fun i r ra h1 h2 => ?_⟩
  cases i with
  | zero =>
   simp only [chunkS,chunk,List.getElem?_cons_zero,qa] at h1 h2
   subst h1 h2
   exact ⟨h.take z,by simp; omega⟩
  | succ i =>
   simp only [chunkS,chunk,List.getElem?_cons_succ] at h1 h2
   exact ih.2 i r ra h1 h2
theorem decAll_ok (hC : CodecOk C) {z n : Nat} : ∀ {rows : List (List (SV C.T))} {rA : List (List AVal)} {xs : List (C.T n)},RowsEr E z rows rA → decAll n rows = some xs → RowsEr E z (xs.map (C.enc n)) rA
 | [],rA,xs,h,hd => by
  simp only [decAll,qa] at hd
  subst hd
  exact h
 | r :: rows,[],xs,h,hd => by simp [RowsEr] at h
 | r :: rows,ra :: rA,xs,h,hd => by
  simp only [decAll] at hd
  split at hd
  ·cases hd
  ·rename_i x hx
   split at hd
   ·cases hd
   ·rename_i xs' hxs
    simp only [qa] at hd
    subst hd
    obtain ⟨h1,h2,h3⟩ := h.tail
    have ih := decAll_ok hC h3 hxs
    refine ⟨by simp [ih.1],fun i p q h4 h5 => ?_⟩
    cases i with
    | zero =>
     simp only [List.map_cons,List.getElem?_cons_zero,qa] at h4 h5
     subst h4 h5
     exact ⟨hC.dec n r x hx E ra h1,h2⟩
    | succ i =>
     simp only [List.map_cons,List.getElem?_cons_succ] at h4 h5
     exact ih.2 i p q h4 h5
theorem RowsAt.of_flat (hC : CodecOk C) {n : Nat} {ys : List (C.T n)} {rA : List (List AVal)} {as : List AVal} {off : Nat} (h : RowsEr E (C.sz n) (ys.map (C.enc n)) rA) (hf : ∀ k,k < rA.flatten.length → as[off + k]? = rA.flatten[k]?) : RowsAt E n ys as off := by
 intro i y j x a h1 h2 h3
 have hl := lt_of_some h1
 have hil : i < rA.length := by rw [← h.1]; simpa using hl
 have hra : rA[i]? = some rA[i] := qt hil
 have hr := h.2 i (C.enc n y) rA[i] (by simp [h1]) hra
 have hj : j < C.sz n := by have := lt_of_some h2; rw [hC.len] at this; exact this
 have hk : i * C.sz n + j < rA.flatten.length := by
  rw [flat_len h.lens]
  have := mul_le_of (z := C.sz n) hil
  omega
 rw [Nat.add_assoc,hf _ hk,flat_get h.lens hra hj] at h3
 exact hr.1.2 j x a h2 h3
theorem RowsAt.append (hC : CodecOk C) {n : Nat} {l ys : List (C.T n)} {rA : List (List AVal)} {as as' : List AVal} {off off' : Nat} (h : RowsAt E n l as off) (hr : RowsEr E (C.sz n) (ys.map (C.enc n)) rA)
 (h1 : ∀ k,k < l.length * C.sz n → as'[off' + k]? = as[off + k]?) (h2 : ∀ k,k < rA.flatten.length → as'[off' + l.length * C.sz n + k]? = rA.flatten[k]?) : RowsAt E n (l ++ ys) as' off' := by
 intro i y j x a g1 g2 g3
 have hj : j < C.sz n := by have := lt_of_some g2; rw [hC.len] at this; exact this
 rcases qm i l.length with hi | hi
 ·rw [qg hi] at g1
  have := mul_le_of (z := C.sz n) hi
  rw [Nat.add_assoc,h1 _ (by omega),← Nat.add_assoc] at g3
  exact h i y j x a g1 g2 g3
 ·rw [qk hi] at g1
  refine RowsAt.of_flat hC hr h2 (i - l.length) y j x a g1 g2 ?_
  rw [show off' + l.length * C.sz n + (i - l.length) * C.sz n + j = off' + i * C.sz n + j by rw [Nat.add_assoc off',← Nat.add_mul,Nat.add_sub_cancel' hi]]
  exact g3
theorem RowsEr.map_enc (hC : CodecOk C) {n : Nat} {l : List (C.T n)} {rA : List (List AVal)} (hl : rA.length = l.length) (h : ∀ (i : Nat) (y : C.T n) (ra : List AVal),l[i]? = some y → rA[i]? = some ra → Ers E (C.enc n y) ra) : RowsEr E (C.sz n) (l.map (C.enc n)) rA := by
 refine ⟨by simp [hl],fun i r ra h1 h2 => ?_⟩
 rw [List.getElem?_map,qd] at h1
 obtain ⟨y,h3,rfl⟩ := h1
 have := h i y ra h3 h2
 exact ⟨this,by rw [← this.1,hC.len]⟩
def Src.Ok (E : Env) (z : Nat) (rA : List (List AVal)) : Src C → Prop
 | .lit rows => RowsEr E z rows rA
 | .typ n l => C.sz n = z ∧ RowsEr E z (l.map (C.enc n)) rA
 | .no => True
theorem srcS_ok (hC : CodecOk C) {lo wlo : Nat} {h : SH C} {H : Heap} (hS : SimH E lo wlo h H) {z : Nat} {x : SV C.T} {a : AVal} (hx : Er E x a) {src : Src C} (e : srcS h z x = src) (hn : src ≠ .no) : ∃ rA,rowsA H z a = some rA ∧ src.Ok E z rA := by
 unfold srcS at e
 split at e
 ·cases hx
  subst e
  exact ⟨[],rfl,rfl,fun i r ra h => by simp at h⟩
 ·cases hx
  split at e
  ·rename_i s rows ex hc
   subst e
   refine ⟨rows,by simp [rowsA,hc.1],by simp,fun i r ra h1 h2 => ?_⟩
   rw [List.getElem?_map,h2] at h1
   simp only [Option.map_some,qa] at h1
   subst h1
   refine ⟨Ers.mapA ra, ?_⟩
   have := List.all_eq_true.1 hc.2 ra (qp h2)
   simpa using this
  ·exact (hn e.symm).elim
 ·cases hx
  split at e
  ·rename_i s hc
   subst e
   refine ⟨s.map fun b => [.int .u8 b.toNat],by simp [rowsA,hc],by simp,fun i r ra h1 h2 => ?_⟩
   rw [List.getElem?_map,qd] at h1 h2
   obtain ⟨b,h3,rfl⟩ := h1
   obtain ⟨b',h4,rfl⟩ := h2
   rw [h3] at h4
   simp only [qa] at h4
   subst h4
   exact ⟨Ers.nil.cons (.a _),by simp [hc]⟩
  ·exact (hn e.symm).elim
 ·split at e
  ·rename_i s id off len cap ex hs
   split at e
   ·rename_i cs ho
    split at e
    ·rename_i hle
     subst e
     cases hx with
     | sl hb =>
      obtain ⟨b,as,g1,_,g2,g3⟩ := hS.obj id _ (hget_some ho)
      rw [hb] at g1
      simp only [qa] at g1
      subst g1
      have hl := g3.1
      refine ⟨chunk z len (as.drop off), ?_,chunkS_ok (g3.drop off) (by simp; omega)⟩
      simp only [rowsA,hs,if_true,g2]
      rw [if_pos (by omega)]
    ·exact (hn e.symm).elim
   ·exact (hn e.symm).elim
  ·exact (hn e.symm).elim
 ·split at e
  ·rename_i n l hz
   subst e
   cases hx with
   | tlN => exact ⟨[],rfl,hz,rfl,fun i r ra h => by simp at h⟩
   | tlL h1 h2 h3 h4 =>
    rename_i z' rows ex
    refine ⟨rows,by simp [rowsA,h1,hz],hz, ?_⟩
    rw [← hz]
    exact RowsEr.map_enc hC h2 fun i y ra g1 g2 => ⟨by rw [hC.len,h3 i ra g2],fun j x a g3 g4 => h4 i y ra j x a g1 g2 g3 g4⟩
   | tlS h1 h2 hf h3 h4 h5 =>
    rename_i z' b off len cap as ex
    have g2 := (hS.fr _ _ hf).1
    refine ⟨chunk z len (as.drop off), ?_,hz, ?_⟩
    ·simp only [rowsA,h1,hz,if_true,g2]
     rw [if_pos (by rw [h2,← hz]; exact h3)]
    ·rw [← hz]
     refine RowsEr.map_enc hC (by rw [chunk_len,h2]) fun i y ra g1 g3 => ?_
     have hi : i < l.length := lt_of_some g1
     rw [chunk_get (by omega),qa] at g3
     subst g3
     rw [List.drop_drop]
     have := mul_le_of (z := C.sz n) hi
     exact Ers.of_at hC h5 g1 (by omega)
  ·exact (hn e.symm).elim
 ·rename_i id
  split at e
  ·rename_i n l full root ho
   split at e
   ·rename_i hz
    subst e
    cases hx with
    | R hg hs =>
     rcases hS.obj id _ (hget_some ho) with ⟨rfl,_,a',g1,g2⟩ | ⟨b,off,cap,ex,as,g1,g2,_,g3,g4,g5,g6,g7,g8⟩
     ·rw [hg] at g1
      simp only [qa] at g1
      subst g1
      refine ⟨[], ?_,hz,rfl,fun i r ra h => by simp at h⟩
      rcases g2 with rfl | rfl
      ·rfl
      ·simp [rowsA,hz]
     ·rw [hg] at g1
      simp only [qa] at g1
      subst g1
      have hm := Nat.mul_le_mul_right (C.sz n) g4
      refine ⟨chunk z l.length (as.drop off), ?_,hz, ?_⟩
      ·simp only [rowsA,hz,if_true,g3]
       rw [if_pos (by rw [← hz]; omega)]
      ·rw [← hz]
       refine RowsEr.map_enc hC (chunk_len _ _) fun i y ra q1 q2 => ?_
       have hi : i < l.length := lt_of_some q1
       rw [chunk_get hi,qa] at q2
       subst q2
       rw [List.drop_drop]
       have := mul_le_of (z := C.sz n) hi
       exact Ers.of_at hC g8 q1 (by omega)
   ·exact (hn e.symm).elim
  ·exact (hn e.symm).elim
 ·exact (hn e.symm).elim
end Go.Sy

/- Maps of numbers: what is looked up, and what turns them. Generic: over any program. -/
namespace Go.Sy
open Go.Am
set_option linter.unusedVariables false
variable {C : Codec} {E : Env} {P : Program}
theorem mpAt_hit {n m : Int} {v : AVal} {as : List (AVal × AVal)} : mpAt n ((.int .i64 m,v) :: as) = if n = m then some v else mpAt n as := rfl
theorem mpAt_skip {n : Int} {k v : AVal} {as : List (AVal × AVal)} (h : ∀ m,k ≠ .int .i64 m) : mpAt n ((k,v) :: as) = mpAt n as := by
 cases k with
 | int kk m => cases kk <;> first | rfl | exact (h m rfl).elim
 | _ => rfl
theorem mpAt_push {n : Int} {w : AVal} : ∀ {as : List (AVal × AVal)},mpAt n as = none → ∀ m,mpAt m (as ++ [(.int .i64 n,w)]) = if m = n then some w else mpAt m as
 | [],_,m => by rw [List.nil_append,mpAt_hit]
 | (k,v) :: as,h,m => by
  rw [List.cons_append]
  by_cases hk : ∃ m',k = .int .i64 m'
  ·obtain ⟨m',rfl⟩ := hk
   rw [mpAt_hit] at h
   split at h
   ·cases h
   ·rename_i e
    rw [mpAt_hit,mpAt_hit,mpAt_push h m]
    split
    ·rename_i e2
     subst e2
     rw [if_neg (fun e3 => e e3.symm)]
    ·rfl
  ·have hk' : ∀ m',k ≠ .int .i64 m' := fun m' e => hk ⟨m',e⟩
   rw [mpAt_skip hk'] at h
   rw [mpAt_skip hk',mpAt_skip hk',mpAt_push h m]
theorem lookupS_ok {lo wlo : Nat} {t : TypeId} {h : SH C} {H : Heap} (hS : SimH E lo wlo h H) {m x : SV C.T} {a b : AVal} {ok : Bool} (hm : Er E m a) (hx : Er E x b) {K : SV C.T → Tree} (hh : (lookupS P t h m x ok K).holds) : Ret E (lookupA P t H a b ok) K := by unfold lookupS at hh; exact qa1 hh
theorem nodup_get {l : List (Int × SV C.T)} (h : (l.map (·.1)).Nodup) {i j : Nat} {n : Int} {x y : SV C.T} (hi : l[i]? = some (n,x)) (hj : l[j]? = some (n,y)) : i = j := by
 have h1 : (l.map (·.1))[i]? = some n := by rw [List.getElem?_map,hi]; rfl
 have h2 : (l.map (·.1))[j]? = some n := by rw [List.getElem?_map,hj]; rfl
 have hl : i < (l.map (·.1)).length := lt_of_some h1
 exact (List.getElem?_inj hl h).1 (h1.trans h2.symm)
theorem MpOk.set {es : List (Int × SV C.T)} {as as' : List (AVal × AVal)} (h : MpOk E es as) {i : Nat} {n : Int} {x y : SV C.T} {w : AVal} (hi : es[i]? = some (n,x)) (hy : Er E y w) (hk : ∀ p,p ∈ as' → ∃ m,p.1 = .int .i64 m) (hm : ∀ m,mpAt m as' = if m = n then some w else mpAt m as) : MpOk E (es.set i (n,y)) as' := by
 have hkeys : (es.set i (n,y)).map (·.1) = es.map (·.1) := by
  rw [List.map_set]
  apply List.ext_getElem?
  intro j
  rw [qh]
  split
  ·rename_i e
   subst e
   rw [List.getElem?_map,hi]
   have := lt_of_some hi
   simp [this]
  ·rfl
 have mem : ∀ m z,(m,z) ∈ es.set i (n,y) → (m = n ∧ z = y) ∨ (m ≠ n ∧ (m,z) ∈ es) := by
  intro m z hz
  obtain ⟨j,hj⟩ := List.mem_iff_getElem?.1 hz
  rw [qh] at hj
  split at hj
  ·split at hj
   ·simp only [qa,qe] at hj
    exact .inl ⟨hj.1.symm,hj.2.symm⟩
   ·cases hj
  ·rename_i e
   refine .inr ⟨fun e2 => ?_,qp hj⟩
   subst e2
   exact e (nodup_get h.nodup hi hj)
 refine ⟨hk,by rw [hkeys]; exact h.nodup,fun m z hz => ?_,fun m v hv => ?_⟩
 ·rcases mem m z hz with ⟨rfl,rfl⟩ | ⟨h1,h2⟩
  ·exact .inl ⟨w,by rw [hm,if_pos rfl],hy⟩
  ·have := h.val m z h2
   rw [hm,if_neg h1]
   exact this
 ·rw [hm] at hv
  split at hv
  ·rename_i e
   subst e
   refine ⟨y,List.mem_iff_getElem?.2 ⟨i, ?_⟩⟩
   rw [qh,if_pos rfl,if_pos (lt_of_some hi)]
  ·rename_i e
   obtain ⟨z,hz⟩ := h.dom m v hv
   obtain ⟨j,hj⟩ := List.mem_iff_getElem?.1 hz
   refine ⟨z,List.mem_iff_getElem?.2 ⟨j, ?_⟩⟩
   rw [qh,if_neg]
   ·exact hj
   ·intro e2
    subst e2
    rw [hi] at hj
    simp only [qa,qe] at hj
    exact e hj.1.symm
theorem MpOk.push {es : List (Int × SV C.T)} {as : List (AVal × AVal)} (h : MpOk E es as) {n : Int} {y : SV C.T} {w : AVal} (hn : ∀ x,(n,x) ∉ es) (hy : Er E y w) : MpOk E (es ++ [(n,y)]) (as ++ [(.int .i64 n,w)]) := by
 have h0 : mpAt n as = none := by
  cases hv : mpAt n as with
  | none => rfl
  | some v =>
   obtain ⟨x,hx⟩ := h.dom n v hv
   exact (hn x hx).elim
 refine ⟨fun p hp => ?_, ?_,fun m z hz => ?_,fun m v hv => ?_⟩
 ·rcases List.mem_append.1 hp with hp | hp
  ·exact h.keys p hp
  ·rw [List.mem_singleton] at hp; subst hp; exact ⟨n,rfl⟩
 ·rw [List.map_append,List.nodup_append]
  refine ⟨h.nodup,by simp,fun a ha b hb e => ?_⟩
  simp only [List.map_cons,List.map_nil,List.mem_singleton] at hb
  subst hb
  subst e
  obtain ⟨⟨m,z⟩,hz,e⟩ := List.mem_map.1 ha
  simp only at e
  subst e
  exact hn z hz
 ·rw [mpAt_push h0]
  rcases List.mem_append.1 hz with hq | hq
  ·have e : m ≠ n := fun e => hn z (by rw [← e]; exact hq)
   rw [if_neg e]
   exact h.val m z hq
  ·rw [List.mem_singleton] at hq
   cases hq
   exact .inl ⟨w,by rw [if_pos rfl],hy⟩
 ·rw [mpAt_push h0] at hv
  split at hv
  ·rename_i e
   subst e
   exact ⟨y,List.mem_append.2 (.inr (by simp))⟩
  ·obtain ⟨x,hx⟩ := h.dom m v hv
   exact ⟨x,List.mem_append.2 (.inl hx)⟩
theorem mapUpdX_ok {lo wlo : Nat} {t : TypeId} {h : SH C} {H : Heap} (hS : SimH E lo wlo h H) {m x v : SV C.T} {a b c : AVal} (hm : Er E m a) (hx : Er E x b) (hv : Er E v c) {K : SV C.T → SH C → Tree} (hh : (mapUpdX P wlo t h m x v K).holds) :
 Out E lo wlo h H (fun r H' => r = undefA ∧ mapUpdateA P lo t H a b c = some H') K := by unfold mapUpdX at hh; exact qa1 hh
theorem nextX_ok {lo wlo : Nat} {h : SH C} {H : Heap} (hS : SimH E lo wlo h H) {x : SV C.T} {a : AVal} {isString : Bool} (hx : Er E x a) {K : SV C.T → SH C → Tree} (hh : (nextX wlo h x isString K).holds) :
 Out E lo wlo h H (fun r H' => nextA lo H a isString = some (r,H')) K := by unfold nextX at hh; exact qa1 hh
theorem mapUpdX_live {wlo : Nat} {t : TypeId} {h : SH C} {m x v : SV C.T} {K : SV C.T → SH C → Tree} (hh : (mapUpdX P wlo t h m x v K).holds) : ∃ id es,m = .mapr id ∧ hget h id = some (.mp es) := by unfold mapUpdX at hh; exact qa1 hh
end Go.Sy

/- What makes blocks and turns them, on symbolic values, is sound: new blocks, stores. Generic: over any program. -/
namespace Go.Sy
open Go.Am
set_option linter.unusedVariables false
variable {C : Codec} {E : Env} {P : Program}
theorem bndN_ok {d : Nat} {x : Option (SV C.T)} {a : Option AVal} {r y : Nat} (hx : ∀ v,x = some v → ∃ w,a = some w ∧ Er E v w) (hn : x = none → a = none) (h : bndN d x = some r) (hr : r ≤ y ∨ x = none) : boundA d y a = some r := by
 unfold bndN at h
 split at h
 ·simp only [qa] at h
  subst h
  rw [hn rfl]
  rfl
 ·rename_i k m
  simp only [qa] at h
  subst h
  obtain ⟨w,rfl,hw⟩ := hx _ rfl
  cases hw
  rcases hr with hr | hr
  ·simp [boundA,idxA,hr]
  ·cases hr
 ·cases h
theorem boundA_of {a : AVal} {r : Nat} (h : boundA 0 r (some a) = some r) : idxA a = some r := by
 unfold boundA at h
 simp only at h
 split at h
 ·split at h
  ·rename_i e _; rw [e,← h]
  ·cases h
 ·cases h
theorem replicate_flat_get {α : Type} {zc : List α} {z : Nat} (hz : zc.length = z) : ∀ {n i j : Nat},i < n → j < z → ((List.replicate n zc).flatten)[i * z + j]? = zc[j]?
 | 0,i,j,h,_ => by omega
 | n + 1,0,j,_,hj => by
  simp only [List.replicate_succ,List.flatten_cons,Nat.zero_mul,Nat.zero_add]
  rw [qg (by omega)]
 | n + 1,i + 1,j,h,hj => by
  simp only [List.replicate_succ,List.flatten_cons]
  rw [qk (by rw [hz,Nat.succ_mul]; omega),show (i + 1) * z + j - zc.length = i * z + j by rw [hz,Nat.succ_mul]; omega]
  exact replicate_flat_get hz (by omega) hj
theorem replicate_flat_len {α : Type} {zc : List α} {z : Nat} (hz : zc.length = z) (n : Nat) : ((List.replicate n zc).flatten).length = n * z := by
 induction n with
 | zero => simp
 | succ n ih => simp only [List.replicate_succ,List.flatten_cons,qo,ih,hz,Nat.succ_mul]; omega
theorem newX_ok (hC : CodecOk C) {S : AStat} {ρ : List AVal} {ev : Operand → SV C.T} (hev : ∀ x,Er E (ev x) (evalA S ρ x)) {op : Op} {K : (Nat → Obj C.T) → (Nat → SV C.T) → Tree} (h : (newX S ev op K).holds) :
 ∃ blk mkA o mk,newA S ρ op = some (blk,mkA) ∧ (K o mk).holds ∧ ∀ (E' : Env) (H' : Heap) (id b : Nat),E.le E' → E'.β id = some b → E'.γ id = some (mkA b) → E'.ω b = some id → H'[b]? = some (some blk) → ObjOk E' H' id (o id) ∧ Er E' (mk id) (mkA b) := by
 unfold newX at h
 split at h
 ·rename_i t
  split at h
  ·rename_i z hz
   split at h
   ·rename_i hall
    refine ⟨.cells z.cells,fun id => .ptr id 0,_,_, ?_,h, ?_⟩
    ·simp only [newA,allocA,hz,hall,if_true]
    ·intro E' H' id b _ hb _ hw hH
     exact ⟨⟨b,z.cells,hb,hw,hH,Ers.mapA _⟩,.ptr hb⟩
   ·exact qa1 h
  ·exact qa1 h
 ·rename_i t x
  split at h
  ·rename_i cs hcs
   split at h
   ·rename_i hall
    have hE := cellsS_ok (hev x) hcs
    refine ⟨.cells (evalA S ρ x).cells,fun id => .ptr id 0,_,_, ?_,h, ?_⟩
    ·simp only [newA,boxA,oneS_all hE hall,if_true]
    ·intro E' H' id b hle hb _ hw hH
     exact ⟨⟨b,_,hb,hw,hH,hE.mono hle⟩,.ptr hb⟩
   ·exact qa1 h
  ·exact qa1 h
 ·rename_i t len parts
  split at h
  ·rename_i e hu
   split at h
   ·exact qa1 h
   ·rename_i z hz
    split at h
    ·rename_i hc
     split at h
     ·rename_i cs hcs
      have hp : PartsOk E (parts.toList.map fun p => (p.1,ev p.2)) (parts.toList.map fun p => (p.1,evalA S ρ p.2)) := by
       generalize parts.toList = l
       induction l with
       | nil => exact .nil
       | cons p l ih => exact .cons (hev p.2) ih
      obtain ⟨ra,h1,h2⟩ := fillS_ok hp (Ers.mapA _) hcs
      refine ⟨.cells ra,fun id => .sl (szOf S.P e) id 0 len len false,_,_, ?_,h, ?_⟩
      ·simp only [newA,buildSliceA,hu,hz,hc,and_self,if_true,h1,Option.map_some,ne_eq,not_false_eq_true]
      ·intro E' H' id b hle hb _ hw hH
       exact ⟨⟨b,ra,hb,hw,hH,h2.mono hle⟩,.sl hb⟩
     ·exact qa1 h
    ·exact qa1 h
  ·exact qa1 h
 ·rename_i t l c
  split at h
  ·rename_i e hu
   split at h
   ·exact qa1 h
   ·rename_i z hz
    split at h
    ·rename_i hc
     split at h
     ·rename_i ln cn hl hcn
      split at h
      ·rename_i hcc
       have el := boundA_of (bndN_ok (C := C) (E := E) (y := ln) (a := some (evalA S ρ l)) (fun v e => ⟨_,rfl,by cases e; exact hev l⟩) (fun e => by cases e) hl (.inl (qf _)))
       have ec := boundA_of (bndN_ok (C := C) (E := E) (y := cn) (a := some (evalA S ρ c)) (fun v e => ⟨_,rfl,by cases e; exact hev c⟩) (fun e => by cases e) hcn (.inl (qf _)))
       refine ⟨.cells (List.replicate cn z.cells).flatten,fun id => .sl (szOf S.P e) id 0 ln cn true,_,_, ?_,h, ?_⟩
       ·simp only [newA,makeSliceA,hu,el,ec,hz]
        rw [if_pos ⟨hcc.1,hcc.2.1,hcc.2.2,hc.1,hc.2.1,hc.2.2⟩]
       ·intro E' H' id b hle hb _ hw hH
        exact ⟨⟨b,_,hb,hw,hH,Ers.mapA _⟩,.sl hb⟩
      ·exact qa1 h
     ·split at h
      ·rename_i kl ln kc cn n hl hcn hn
       split at h
       ·rename_i x hx
        split at h
        ·rename_i hsz
         obtain ⟨⟨h0,h1,h2,h3⟩,hk⟩ := h
         have el := intOf_ok (hev l) hl
         have ec := intOf_ok (hev c) hcn
         subst h1
         refine ⟨.cells (List.replicate ln.toNat z.cells).flatten,fun id => .sl (szOf S.P e) id 0 ln.toNat ln.toNat true,_,_, ?_,hk, ?_⟩
         ·simp only [newA,makeSliceA,hu,el,ec,idxA,h0,if_true,hz]
          rw [if_pos ⟨qf _,by
           have : ((ln.toNat * S.P.bytesOf e : Nat) : Int) ≤ 281474976710656 := by rw [Int.natCast_mul,Int.toNat_of_nonneg h0]; exact h2
           omega,by omega,hc.1,hc.2.1,hc.2.2⟩]
         ·intro E' H' id b hle hb hg hw hH
          have hE : Ers (C := C) E' (C.enc n x) z.cells := hC.dec n _ x hx E' _ (Ers.mapA _)
          refine ⟨.inr ⟨b,0,ln.toNat,true,_, ?_,hb,hw,hH, ?_, ?_,.inl rfl,fun _ => .inl rfl, ?_⟩,.R hg rfl⟩
          ·rw [hg,List.length_replicate,hsz]
          ·simp
          ·rw [replicate_flat_len hc.1,hsz]; omega
          ·intro i y j xx a g1 g2 g3
           have hi := lt_of_some g1
           simp only [List.length_replicate] at hi
           rw [List.getElem?_replicate,if_pos hi] at g1
           simp only [qa] at g1
           subst g1
           have hj : j < C.sz n := by have := lt_of_some g2; rw [hC.len] at this; exact this
           rw [Nat.zero_add,hsz,replicate_flat_get hc.1 hi (by omega)] at g3
           exact hE.2 j xx a g2 g3
        ·exact qa1 h
       ·exact qa1 h
      ·exact qa1 h
    ·exact qa1 h
  ·exact qa1 h
 ·refine ⟨.mp [],fun id => .mapr id,_,_,rfl,h, ?_⟩
  intro E' H' id b hle hb _ hw hH
  exact ⟨⟨b,[],hb,hw,hH,fun p hp => by simp at hp,List.nodup_nil,fun n x hx => by simp at hx,fun n v hv => by simp [mpAt] at hv⟩,.mapr hb⟩
 ·rename_i t x
  split at h
  ·rename_i s hu hs
   refine ⟨.it s 0,fun id => .ptr id 0,_,_, ?_,h, ?_⟩
   ·simp only [newA,rangeA,hu,strOf_ok (hev x) hs]
   ·intro E' H' id b hle hb _ hw hH
    exact ⟨⟨b,hb,hw,hH⟩,.ptr hb⟩
  ·exact qa1 h
 ·exact qa1 h
theorem storeX_ok (hC : CodecOk C) {lo wlo : Nat} {t : TypeId} {h : SH C} {H : Heap} (hS : SimH E lo wlo h H) {x v : SV C.T} {a b : AVal} {K : SV C.T → SH C → Tree} (hx : Er E x a) (hv : Er E v b) (hh : (storeX P wlo t h x v K).holds) :
 Out E lo wlo h H (fun r H' => r = undefA ∧ storeA P lo t H a b = some H') K := by
 unfold storeX at hh
 split at hh
 ·exact qa1 hh
 ·rename_i vs hvs
  have hE := cellsS_ok hv hvs
  have hEl := hE.1
  split at hh
  ·rename_i hc
   have hone := oneS_all hE hc.2.2
   split at hh
   ·rename_i id off
    split at hh
    ·rename_i cs ho
     split at hh
     ·rename_i hw
      cases hx with
      | ptr hb =>
       rename_i bb
       obtain ⟨b',as,g1,gw,g2,g3⟩ := hS.obj id _ (hget_some ho)
       rw [hb] at g1
       simp only [qa] at g1
       subst g1
       have hl := g3.1
       have hlo := hS.low id bb hw.1 hb
       have hst : storeA P lo t H (.ptr bb off) b = some (H.set bb (some (.cells (splice as off b.cells)))) := by
        simp only [storeA,g2]
        rw [if_pos ⟨hlo,by omega,hc.2.1,hone,by omega⟩]
       refine ⟨undefA,_,.a undefA,_,E,⟨rfl,hst⟩,LeN.refl _ _,by simp,hS.upd (hget_some ho) (by simp) ?_ ?_,by simp,.a _,hh⟩
       ·intro q hq hne
        rw [qh] at hne
        split at hne
        ·rename_i e; rw [← e]; exact hb
        ·exact (hne rfl).elim
       ·refine ⟨bb,_,hb,gw,by rw [qh,if_pos rfl,if_pos (lt_of_some g2)], ?_⟩
        unfold splice
        rw [← hEl]
        exact ((g3.take off).append hE).append (g3.drop (off + vs.length))
     ·exact qa1 hh
    ·exact qa1 hh
   ·rename_i id i off
    split at hh
    ·rename_i n l full root ho
     split at hh
     ·rename_i hw
      split at hh
      ·rename_i y hy
       obtain ⟨⟨h0,h1⟩,hk⟩ := hh
       have hat := Codec.at_get (C := C) h0 h1
       cases hx with
       | ep hg =>
        rename_i z bb o len cap ex
        rcases hS.obj id _ (hget_some ho) with ⟨rfl,_⟩ | ⟨b',off',cap',ex',as,g1,g2,gw,g3,g4,g5,g6,g7,g8⟩
        ·simp at h1; omega
        ·rw [hg] at g1
         simp only [qa,AVal.sl.injEq] at g1
         obtain ⟨rfl,rfl,rfl,rfl,rfl,rfl⟩ := g1
         have hi : i.toNat < l.length := by omega
         have hm := mul_le_of (z := C.sz n) hi
         have hcap := Nat.mul_le_mul_right (C.sz n) g4
         have hlo := hS.low id bb hw.1 g2
         have hrow := Ers.of_at hC g8 hat (by omega)
         have hnew := hC.dec n _ y hy E _ (((hrow.take off).append hE).append (hrow.drop (off + vs.length)))
         have hst : storeA P lo t H (.ptr bb (o + i.toNat * C.sz n + off)) b = some (H.set bb (some (.cells (splice as (o + i.toNat * C.sz n + off) b.cells)))) := by
          simp only [storeA,g3]
          rw [if_pos ⟨hlo,by omega,hc.2.1,hone,by omega⟩]
         refine ⟨undefA,_,.a undefA,_,E,⟨rfl,hst⟩,LeN.refl _ _,by simp,hS.upd (hget_some ho) (by simp) ?_ ?_,by simp,.a _,hk⟩
         ·intro q hq hne
          rw [qh] at hne
          split at hne
          ·rename_i e; rw [← e]; exact g2
          ·exact (hne rfl).elim
         ·have hslen : (splice as (o + i.toNat * C.sz n + off) b.cells).length = as.length := by
           unfold splice
           simp
           omega
          refine .inr ⟨bb,o,cap,ex,_,by rw [qz]; exact hg,g2,gw,by rw [qh,if_pos rfl,if_pos (lt_of_some g3)],by simpa using g4,by rw [hslen]; exact g5,by rw [hslen]; exact g6,by simpa using g7, ?_⟩
          intro i' y' j xx aa q1 q2 q3
          have hj : j < C.sz n := by have := lt_of_some q2; rw [hC.len] at this; exact this
          -- the cells of the block behind the store
          have get : ∀ k,(splice as (o + i.toNat * C.sz n + off) b.cells)[k]? = if k < o + i.toNat * C.sz n + off then as[k]? else if k < o + i.toNat * C.sz n + off + b.cells.length then b.cells[k - (o + i.toNat * C.sz n + off)]? else as[k]? := by
           intro k
           unfold splice
           split
           ·rw [List.append_assoc,qg (by simp; omega),qx,if_pos (by assumption)]
           ·rename_i hk1
            split
            ·rw [List.append_assoc,qk (by simp; omega),qg (by simp; omega)]
             congr 1
             simp
             omega
            ·rw [qk (by simp; omega),qw]
             congr 1
             simp
             omega
          rw [get] at q3
          by_cases hii : i' = i.toNat
          ·subst hii
           rw [qh,if_pos rfl,if_pos hi] at q1
           simp only [qa] at q1
           subst q1
           refine hnew.2 j xx aa q2 ?_
           have rowget : ∀ k,k < C.sz n → ((as.drop (o + i.toNat * C.sz n)).take (C.sz n))[k]? = as[o + i.toNat * C.sz n + k]? := by
            intro k hk
            rw [qx,if_pos hk,qw]
           have rowlen : ((as.drop (o + i.toNat * C.sz n)).take (C.sz n)).length = C.sz n := by simp; omega
           rw [← hEl] at q3
           split at q3
           ·rw [List.append_assoc,qg (by rw [List.length_take,rowlen]; omega),qx,if_pos (by omega),rowget j hj]
            exact q3
           ·split at q3
            ·rw [List.append_assoc,qk (by rw [List.length_take,rowlen]; omega),qg (by rw [List.length_take,rowlen]; omega),List.length_take,rowlen]
             rw [show j - min off (C.sz n) = o + i.toNat * C.sz n + j - (o + i.toNat * C.sz n + off) by omega]
             exact q3
            ·rw [qk (by rw [qo,List.length_take,rowlen]; omega),qo,List.length_take,rowlen,qw,
              show off + vs.length + (j - (min off (C.sz n) + b.cells.length)) = j by omega,rowget j hj]
             exact q3
          ·rw [qh,if_neg (fun e => hii e.symm)] at q1
           have hi' := lt_of_some q1
           have hm' := mul_le_of (z := C.sz n) hi'
           have apart : o + i' * C.sz n + j < o + i.toNat * C.sz n + off ∨ o + i.toNat * C.sz n + off + b.cells.length ≤ o + i' * C.sz n + j := by
            rcases Nat.lt_or_gt_of_ne hii with hlt | hgt
            ·have := mul_le_of (z := C.sz n) hlt
             left
             omega
            ·have := mul_le_of (z := C.sz n) hgt
             right
             omega
           refine g8 i' y' j xx aa q1 q2 ?_
           rcases apart with h5 | h5
           ·rw [if_pos h5] at q3
            exact q3
           ·rw [if_neg (by omega),if_neg (by omega)] at q3
            exact q3
      ·exact qa1 hh
     ·exact qa1 hh
    ·exact qa1 hh
   ·exact qa1 hh
  ·exact qa1 hh
end Go.Sy

/- Appends to symbolic slices are sound. Generic: over any program. -/
namespace Go.Sy
open Go.Am
set_option linter.unusedVariables false
set_option linter.unusedSimpArgs false
variable {C : Codec} {E : Env} {P : Program}
theorem RowsEr.mono {E E' : Env} (k : E.le E') {z : Nat} {rows : List (List (SV C.T))} {rA : List (List AVal)} (h : RowsEr E z rows rA) : RowsEr E' z rows rA := ⟨h.1,fun i r ra h1 h2 => ⟨(h.2 i r ra h1 h2).1.mono k,(h.2 i r ra h1 h2).2⟩⟩
theorem RowsAt.mono {E E' : Env} (k : E.le E') {n : Nat} {l : List (C.T n)} {as : List AVal} {off : Nat} (h : RowsAt E n l as off) : RowsAt E' n l as off := fun i y j x a h1 h2 h3 => (h i y j x a h1 h2 h3).mono k
theorem splice_get {as bs : List AVal} {p k : Nat} (hp : p ≤ as.length) : (splice as p bs)[k]? = if k < p then as[k]? else if k < p + bs.length then bs[k - p]? else as[k]? := by
 unfold splice
 split
 ·rw [List.append_assoc,qg (by simp; omega),qx,if_pos (by assumption)]
 ·split
  ·rw [List.append_assoc,qk (by simp; omega),qg (by simp; omega)]
   congr 1
   simp
   omega
  ·rw [qk (by simp; omega),qw]
   congr 1
   simp
   omega
structure AppOk (P : Program) (t u e : TypeId) : Prop where
 hu : P.underlying t = some (.slice e)
 hc : (P.info? e).isSome ∧ szOf P e ≠ 0 ∧ notIntB P u = true ∧ zeroFits P e = true ∧ P.bytesOf e ≠ 0
theorem new_rows (hC : CodecOk C) {E' : Env} {H' : Heap} {id p root : Nat} {n : Nat} {l : List (C.T n)} {rA : List (List AVal)} {full : Bool} (hg : E'.γ id = some (.sl (C.sz n) p 0 l.length l.length false)) (hb : E'.β id = some p) (hw : E'.ω p = some root)
 (hH : H'[p]? = some (some (.cells rA.flatten))) (hr : RowsEr E' (C.sz n) (l.map (C.enc n)) rA) : ObjOk E' H' id (.rows n l full root : Obj C.T) := by
 have hl : rA.flatten.length = l.length * C.sz n := by rw [flat_len hr.lens,← hr.1]; simp
 refine .inr ⟨p,0,l.length,false,_,hg,hb,hw,hH,qf _,by omega,.inr (by omega),fun _ => .inr rfl, ?_⟩
 exact RowsAt.of_flat hC hr fun k hk => by rw [Nat.zero_add]
theorem enc_one (hC : CodecOk C) {n : Nat} (l : List (C.T n)) : ((l.map (C.enc n)).flatten).all oneS = true := by
 rw [List.all_eq_true]
 intro x hx
 rw [List.mem_flatten] at hx
 obtain ⟨r,hr,hxr⟩ := hx
 rw [List.mem_map] at hr
 obtain ⟨y,_,rfl⟩ := hr
 exact List.all_eq_true.1 (hC.one n y) x hxr
theorem appendRows_ok (hC : CodecOk C) {lo wlo : Nat} {t u e : TypeId} (hA : AppOk P t u e) {h : SH C} {H : Heap} (hS : SimH E lo wlo h H) {id n : Nat} {l ys : List (C.T n)} {full : Bool} {root : Nat} (ho : hget h id = some (.rows n l full root)) (hz : C.sz n = szOf P e) (hw : wlo ≤ id)
 {a x : AVal} (ha : Er E (.R id : SV C.T) a) {rA : List (List AVal)} (hx : rowsA H (szOf P e) x = some rA) (hr : RowsEr E (C.sz n) (ys.map (C.enc n)) rA) (hf : full = true ∨ ys.length ≤ 1) (hsz : (l.length + ys.length) * P.bytesOf e ≤ 140737488355328) :
 ∃ v H' E',appendA P lo t u H a x = some (v,H') ∧ LeN h.length H.length E E' ∧ SimH E' lo wlo (h.set id none ++ [some (.rows n (l ++ ys) full root)]) H' ∧ H.length ≤ H'.length ∧ Er E' (.R h.length : SV C.T) v := by
 obtain ⟨hu,hc⟩ := hA
 have hn : rA.length = ys.length := by rw [← hr.1]; simp
 have hfl : rA.flatten.length = ys.length * C.sz n := by rw [flat_len hr.lens,hn]
 have hone : rA.flatten.all AVal.one = true := oneS_all hr.flatten (enc_one hC ys)
 have hid := hget_some ho
 have sml : ys.length = 0 → ys = [] := fun h => qq h
 cases ha with
 | R hg hs =>
 -- the way to a new block
 have fresh : ∀ (H1 : Heap) (as : List AVal),H1.length = H.length → (∀ b,b < H.length → H1[b]? ≠ H[b]? → E.β id = some b) → RowsAt E n (l ++ ys) as 0 → as.length = (l.length + ys.length) * C.sz n →
  E.ω H.length = none →
  ∃ E',LeN h.length H.length E E' ∧ SimH E' lo wlo (h.set id none ++ [some (.rows n (l ++ ys) full root)]) (H1 ++ [some (ABlk.cells as)]) ∧ H.length ≤ (H1 ++ [some (ABlk.cells as)]).length ∧ Er E' (.R h.length : SV C.T) (.sl (szOf P e) H.length 0 (l.length + ys.length) (l.length + ys.length) false) := by
  intro H1 as hl1 hX hrows hlen hω
  have hput := hS.put (H' := H1 ++ [some (.cells as)]) id (.rows n (l ++ ys) full root) (some H.length) (.sl (szOf P e) H.length 0 (l.length + ys.length) (l.length + ys.length) false) root (by simp; omega) ?_ ?_ ?_
  ·refine ⟨_,hput.1,hput.2,by simp; omega,.R ?_ rfl⟩
   simp [Env.put]
  ·intro b hb hne
   rw [qg (by omega)] at hne
   have hbe := hX b hb hne
   refine ⟨fun cs hfr => (hS.fr b cs hfr).2 id _ hid hbe,fun i o hi hio hbi => hi (hS.inj i id o _ b hio hid hbi hbe)⟩
  ·intro b hb
   simp only [qa] at hb
   subst hb
   refine ⟨by simp; omega,hS.ll,fun cs hfr => ?_,fun i o hi hio hbi => ?_,.inl ⟨hω,qf _⟩⟩
   ·have := lt_of_some (hS.fr _ cs hfr).1
    omega
   ·have := hS.bnd i _ hbi
    omega
  ·intro hle
   refine .inr ⟨H.length,0,l.length + ys.length,false,as, ?_, ?_, ?_, ?_,by simp, ?_,.inr ?_,fun _ => .inr (by simp),hrows.mono hle.le⟩
   ·simp [Env.put,hz]
   ·simp [Env.put]
   ·simp [Env.put]
   ·rw [← hl1]; simp
   ·omega
   ·omega
 have noω : E.ω H.length = none := by
  cases hwn : E.ω H.length with
  | none => rfl
  | some r => have := (hS.own _ r hwn).1; omega
 rcases hS.obj id _ hid with ⟨rfl,hb0,a',g1,g2⟩ | ⟨b,off,cap,ex,as,g1,g2,gw,g3,g4,g5,g6,g7,g8⟩
 ·rw [hg] at g1
  simp only [qa] at g1
  subst g1
  simp only [List.length_nil,Nat.zero_add] at hsz fresh
  by_cases h0 : ys.length = 0
  ·-- nothing behind nothing
   have hy := sml h0
   subst hy
   have hr0 : rA = [] := qq (by rw [hn]; rfl)
   subst hr0
   have e0 : appendA P lo t u H a x = some (a,H) := by
    rcases g2 with rfl | rfl
    ·simp [appendA,hu,hc,hx]
    ·simp [appendA,hu,hc,hx,hz]
   have hput := hS.put (H' := H) id (.rows n ([] ++ []) full root) none a root (qf _) (fun b _ hne => (hne rfl).elim) (fun b hb => by cases hb) (fun hle => .inl ⟨rfl,by simp [Env.put],a,by simp [Env.put],g2⟩)
   exact ⟨a,H,_,e0,hput.1,hput.2,qf _,.R (by simp [Env.put]) hs⟩
  ·have hy0 : rA.length ≠ 0 := by omega
   obtain ⟨E',k1,k2,k3,k4⟩ := fresh H rA.flatten rfl (fun b _ hne => (hne rfl).elim) (by
    rw [List.nil_append]
    exact RowsAt.of_flat hC hr fun k hk => by rw [Nat.zero_add]) hfl noω
   refine ⟨_,_,E', ?_,k1,k2,k3,k4⟩
   rcases g2 with rfl | rfl
   ·simp only [appendA,hu,hc,hx,hone]
    simp [hy0,hn,hsz,h0,hc]
   ·simp only [appendA,hu,hc,hx,hone]
    simp [hy0,hn,hsz,h0,hz,hc]
 ·rw [hg] at g1
  simp only [qa] at g1
  subst g1
  have hlo := hS.low id b hw g2
  have hcap := Nat.mul_le_mul_right (C.sz n) g4
  have hblt := lt_of_some g3
  by_cases h0 : ys.length = 0
  ·have hy := sml h0
   subst hy
   have hr0 : rA = [] := qq (by rw [hn]; rfl)
   subst hr0
   have e0 : appendA P lo t u H (.sl (C.sz n) b off l.length cap ex) x = some (.sl (C.sz n) b off l.length cap ex,H) := by
    simp only [appendA,hu,hc,hx]
    simp [hz,g3,hc]
    rw [← hz]
    omega
   have hput := hS.put (H' := H) id (.rows n (l ++ []) full root) (some b) (.sl (C.sz n) b off l.length cap ex) root (qf _) (fun b _ hne => (hne rfl).elim) (fun b' hb => by
    simp only [qa] at hb
    subst hb
    exact ⟨hblt,hlo,fun cs hfr => (hS.fr b cs hfr).2 id _ hid g2,fun i o hi hio hbi => hi (hS.inj i id o _ b hio hid hbi g2),.inr gw⟩)
    (fun hle => .inr ⟨b,off,cap,ex,as,by simp [Env.put],by simp [Env.put],by simp [Env.put],g3,by simpa using g4,g5,g6,by simpa using g7,by rw [List.append_nil]; exact g8.mono hle.le⟩)
   exact ⟨_,H,_,e0,hput.1,hput.2,qf _,.R (by simp [Env.put]) rfl⟩
  ·have hy0 : rA.length ≠ 0 := by omega
   have hadd : (l.length + ys.length) * C.sz n = l.length * C.sz n + ys.length * C.sz n := Nat.add_mul _ _ _
   by_cases hroom : l.length + ys.length ≤ cap
   ·-- in its place
    have hroom2 := Nat.mul_le_mul_right (C.sz n) hroom
    have e0 : appendA P lo t u H (.sl (C.sz n) b off l.length cap ex) x = some (.sl (szOf P e) b off (l.length + ys.length) cap ex,H.set b (some (.cells (splice as (off + l.length * szOf P e) rA.flatten)))) := by
     simp only [appendA,hu,hc,hx,hone]
     simp [hz,g3,hy0,hn,h0,hroom,hlo,hc]
     rw [← hz]
     omega
    have hspl : (splice as (off + l.length * szOf P e) rA.flatten).length = as.length := by
     unfold splice
     rw [← hz]
     simp [hfl]
     omega
    have hput := hS.put (H' := H.set b (some (.cells (splice as (off + l.length * szOf P e) rA.flatten)))) id (.rows n (l ++ ys) full root) (some b) (.sl (szOf P e) b off (l.length + ys.length) cap ex) root (by simp)
     (fun b' hb hne => by
      rw [qh] at hne
      split at hne
      ·rename_i e1
       subst e1
       exact ⟨fun cs hfr => (hS.fr b cs hfr).2 id _ hid g2,fun i o hi hio hbi => hi (hS.inj i id o _ b hio hid hbi g2)⟩
      ·exact (hne rfl).elim)
     (fun b' hb => by
      simp only [qa] at hb
      subst hb
      exact ⟨by simpa using hblt,hlo,fun cs hfr => (hS.fr b cs hfr).2 id _ hid g2,fun i o hi hio hbi => hi (hS.inj i id o _ b hio hid hbi g2),.inr gw⟩)
     (fun hle => by
      refine .inr ⟨b,off,cap,ex,_,by simp [Env.put,hz],by simp [Env.put],by simp [Env.put],by rw [qh,if_pos rfl,if_pos hblt],by simpa using hroom,by rw [hspl]; exact g5,by rw [hspl]; exact g6, ?_, ?_⟩
      ·intro hfu
       rcases g7 hfu with h1 | h1
       ·exact .inl h1
       ·omega
      ·refine (RowsAt.append hC g8 hr ?_ ?_).mono hle.le
       ·intro k hk
        rw [splice_get (by rw [← hz]; omega),if_pos (by rw [← hz]; omega)]
       ·intro k hk
        rw [splice_get (by rw [← hz]; omega),if_neg (by rw [← hz]; omega),if_pos (by rw [← hz]; omega)]
        congr 1
        rw [← hz]
        omega)
    exact ⟨_,_,_,e0,hput.1,hput.2,by simp,.R (by simp [Env.put]) rfl⟩
   ·-- a new block
    have rowsNew : ∀ (pre : List AVal),pre = (as.drop off).take (l.length * C.sz n) → RowsAt E n (l ++ ys) (pre ++ rA.flatten) 0 ∧ (pre ++ rA.flatten).length = (l.length + ys.length) * C.sz n := by
     rintro pre rfl
     have hpl : ((as.drop off).take (l.length * C.sz n)).length = l.length * C.sz n := by simp; omega
     refine ⟨RowsAt.append hC g8 hr ?_ ?_,by rw [qo,hpl,hfl]; omega⟩
     ·intro k hk
      rw [Nat.zero_add,qg (by omega),qx,if_pos hk,qw]
     ·intro k hk
      rw [Nat.zero_add,qk (by omega),hpl,Nat.add_sub_cancel_left]
    cases hex : ex with
    | true =>
     subst hex
     obtain ⟨r1,r2⟩ := rowsNew _ rfl
     obtain ⟨E',k1,k2,k3,k4⟩ := fresh H _ rfl (fun b _ hne => (hne rfl).elim) r1 r2 noω
     refine ⟨_,_,E', ?_,k1,k2,k3,k4⟩
     simp only [appendA,hu,hc,hx,hone]
     simp [hz,g3,hy0,hn,h0,hroom,hsz,hc]
     rw [← hz]
     omega
    | false =>
     subst hex
     have hcl : cap = l.length := by
      rcases hf with hf | hf
      ·rcases g7 hf with h1 | h1
       ·cases h1
       ·exact h1
      ·omega
     subst hcl
     have hend : off + l.length * C.sz n = as.length := by
      rcases g6 with h1 | h1
      ·cases h1
      ·exact h1
     have hpre : as.drop off = (as.drop off).take (l.length * C.sz n) := (List.take_of_length_le (by simp; omega)).symm
     obtain ⟨r1,r2⟩ := rowsNew (as.drop off) hpre
     obtain ⟨E',k1,k2,k3,k4⟩ := fresh (H.set b none) _ (by simp) (fun b' _ hne => by
      rw [qh] at hne
      split at hne
      ·rename_i e1; rw [← e1]; exact g2
      ·exact (hne rfl).elim) r1 r2 noω
     refine ⟨_,_,E', ?_,k1,k2,k3,k4⟩
     simp only [appendA,hu,hc,hx,hone]
     have hroom' : ¬ (l.length + ys.length ≤ l.length) := hroom
     rw [hz] at hend
     have hle2 : off + l.length * szOf P e ≤ as.length := by omega
     simp [hz,g3,hy0,hn,h0,hsz,hlo,hc,hroom',hle2,hend]
end Go.Sy

/- Appends to symbolic slices are sound, all of them. Generic: over any program. -/
namespace Go.Sy
open Go.Am
set_option linter.unusedVariables false
set_option linter.unusedSimpArgs false
variable {C : Codec} {E : Env} {P : Program}
theorem get_push {H : Heap} {blk : ABlk} : (H ++ [some blk])[H.length]? = some (some blk) := by simp
theorem set_same {H : Heap} {b : Nat} {blk x : ABlk} (h : H[b]? = some (some x)) : (H.set b (some blk))[b]? = some (some blk) := by rw [qh,if_pos rfl,if_pos (lt_of_some h)]
theorem SimH.pushEnd {lo wlo : Nat} {h : SH C} {H : Heap} (hS : SimH E lo wlo h H) (o' : Obj C.T) (a : AVal) (blk : ABlk)
 (ho : LeN h.length H.length E (E.put h.length (some H.length) a h.length) → ObjOk (E.put h.length (some H.length) a h.length) (H ++ [some blk]) h.length o') :
 LeN h.length H.length E (E.put h.length (some H.length) a h.length) ∧ SimH (E.put h.length (some H.length) a h.length) lo wlo (h ++ [some o']) (H ++ [some blk]) :=
 hS.push H.length o' a H.length (by simp) hS.ll (qf _) (.inl (by simp)) (by simp) (fun b hb hne => qg hb) ho
theorem appendCells_ok {lo wlo : Nat} {t u e : TypeId} (hA : AppOk P t u e) {h : SH C} {H : Heap} (hS : SimH E lo wlo h H) {rows : List (List (SV C.T))} {rA : List (List AVal)} {s x : SV C.T} {a b : AVal} (ha : Er E s a) (hx : rowsA H (szOf P e) b = some rA)
 (hr : RowsEr E (szOf P e) rows rA) (hone : rows.flatten.all oneS = true) {K : SV C.T → SH C → Tree}
 (hh : (match s with
  | .a .nils =>
   if rows.length = 0 then K (.a .nils) h
   else if rows.length * P.bytesOf e ≤ 140737488355328 then K (.sl (szOf P e) h.length 0 rows.length rows.length false) (h ++ [some (.cells rows.flatten)])
   else .stuck "append: size"
  | .sl s0 id off len cap ex =>
   if s0 ≠ szOf P e then .stuck "append: size" else
   match hget h id with
   | some (.cells cs) =>
    if off + len * szOf P e ≤ cs.length then
     if rows.length = 0 then K (.sl s0 id off len cap ex) h
     else if len + rows.length ≤ cap then
      if wlo ≤ id ∧ off + (len + rows.length) * szOf P e ≤ cs.length then
       K (.sl (szOf P e) id off (len + rows.length) cap ex) (h.set id (some (.cells (cs.take (off + len * szOf P e) ++ rows.flatten ++ cs.drop (off + len * szOf P e + rows.flatten.length)))))
      else .stuck "append: not one's own"
     else if (len + rows.length) * P.bytesOf e ≤ 140737488355328 then
      bif ex then K (.sl (szOf P e) h.length 0 (len + rows.length) (len + rows.length) false) (h ++ [some (.cells ((cs.drop off).take (len * szOf P e) ++ rows.flatten))])
      else if wlo ≤ id ∧ off + len * szOf P e = cs.length then K (.sl (szOf P e) h.length 0 (len + rows.length) (len + rows.length) false) (h.set id none ++ [some (.cells (cs.drop off ++ rows.flatten))])
      else .stuck "append: not one's own"
     else .stuck "append: size"
    else .stuck "append: size"
   | _ => .stuck "append: gone"
  | _ => .stuck "append: to what" : Tree).holds) : Out E lo wlo h H (fun v H' => appendA P lo t u H a b = some (v,H')) K := by
 obtain ⟨hu,hc⟩ := hA
 have hn : rA.length = rows.length := hr.1.symm
 have hfl : rA.flatten.length = rows.length * szOf P e := by rw [flat_len hr.lens,hn]
 have hE := hr.flatten
 have hoA := oneS_all hE hone
 split at hh
 ·rename_i ha
  cases ha
  split at hh
  ·rename_i h0
   refine ⟨.nils,H,.a .nils,h,E, ?_,LeN.refl _ _,qf _,hS,qf _,.a _,hh⟩
   simp only [appendA,hu,hc,hx,hoA]
   simp [hn,h0,hc]
  ·rename_i h0
   split at hh
   ·rename_i hsz
    have hp := hS.pushEnd (.cells rows.flatten) (.sl (szOf P e) H.length 0 rows.length rows.length false) (.cells rA.flatten) (fun hle => ⟨H.length,_,by simp [Env.put],by simp [Env.put],get_push,hE.mono hle.le⟩)
    refine ⟨_,_,_,_,_, ?_,hp.1,by simp,hp.2,by simp,.sl (b := H.length) (by simp [Env.put]),hh⟩
    simp only [appendA,hu,hc,hx,hoA]
    simp [hn,h0,hc,hsz]
   ·exact qa1 hh
 ·rename_i s0 id off len cap ex ha
  split at hh
  ·exact qa1 hh
  ·rename_i hs0
   have hs0 : s0 = szOf P e := Decidable.of_not_not hs0
   subst hs0
   split at hh
   ·rename_i cs ho
    split at hh
    ·rename_i hle
     cases ha with
     | sl hb =>
      rename_i bb hsold
      have hid := hget_some ho
      obtain ⟨b',as,g1,gw,g2,g3⟩ := hS.obj id _ hid
      rw [hb] at g1
      simp only [qa] at g1
      subst g1
      have hl := g3.1
      split at hh
      ·rename_i h0
       refine ⟨_,H,_,h,E, ?_,LeN.refl _ _,qf _,hS,qf _,.sl hb,hh⟩
       simp only [appendA,hu,hc,hx,hoA]
       simp [hn,h0,hc,g2]
       omega
      ·rename_i h0
       split at hh
       ·rename_i hroom
        split at hh
        ·rename_i hw
         have hlo := hS.low id bb hw.1 hb
         refine ⟨_,H.set bb (some (.cells (splice as (off + len * szOf P e) rA.flatten))),_,_,E, ?_,LeN.refl _ _,by simp,hS.upd hid (by simp) ?_ ?_,by simp,.sl hb,hh⟩
         ·simp only [appendA,hu,hc,hx,hoA]
          simp [hn,h0,hc,g2,hroom,hlo]
          rw [← hl]
          exact ⟨by omega,hw.2⟩
         ·intro q hq hne
          rw [qh] at hne
          split at hne
          ·rename_i e; rw [← e]; exact hb
          ·exact (hne rfl).elim
         ·refine ⟨bb,_,hb,gw,set_same g2, ?_⟩
          unfold splice
          rw [← hE.1]
          exact ((g3.take _).append hE).append (g3.drop _)
        ·exact qa1 hh
       ·rename_i hroom
        split at hh
        ·rename_i hsz
         cases hex : ex with
         | true =>
          subst hex
          simp only [cond_true] at hh
          have hp := hS.pushEnd (.cells ((cs.drop off).take (len * szOf P e) ++ rows.flatten)) (.sl (szOf P e) H.length 0 (len + rows.length) (len + rows.length) false) (.cells ((as.drop off).take (len * szOf P e) ++ rA.flatten))
           (fun hle => ⟨H.length,_,by simp [Env.put],by simp [Env.put],get_push,(((g3.drop off).take _).append hE).mono hle.le⟩)
          refine ⟨_,_,_,_,_, ?_,hp.1,by simp,hp.2,by simp,.sl (b := H.length) (by simp [Env.put]),hh⟩
          simp only [appendA,hu,hc,hx,hoA]
          simp [hn,h0,hc,g2,hroom,hsz]
          omega
         | false =>
          subst hex
          simp only [cond_false] at hh
          split at hh
          ·rename_i hw
           have hlo := hS.low id bb hw.1 hb
           have hblt := lt_of_some g2
           have hp := hS.put (H' := H.set bb none ++ [some (.cells (as.drop off ++ rA.flatten))]) id (.cells (cs.drop off ++ rows.flatten)) (some H.length) (.sl (szOf P e) H.length 0 (len + rows.length) (len + rows.length) false) h.length (by simp)
            (fun q hq hne => by
             rw [qg (by simpa using hq),qh] at hne
             split at hne
             ·rename_i e1
              subst e1
              exact ⟨fun cs hfr => (hS.fr _ cs hfr).2 id _ hid hb,fun i o hi hio hbi => hi (hS.inj i id o _ _ hio hid hbi hb)⟩
             ·exact (hne rfl).elim)
            (fun q hq => by
             simp only [qa] at hq
             subst hq
             refine ⟨by simp,hS.ll,fun cs hfr => ?_,fun i o hi hio hbi => ?_,.inl ⟨?_,qf _⟩⟩
             ·have := lt_of_some (hS.fr _ cs hfr).1; omega
             ·have := hS.bnd i _ hbi; omega
             ·cases hwn : E.ω H.length with
              | none => rfl
              | some r => have := (hS.own _ r hwn).1; omega)
            (fun hle => ⟨H.length,_,by simp [Env.put],by simp [Env.put],by rw [qk (by simp)]; simp,((g3.drop off).append hE).mono hle.le⟩)
           refine ⟨_,_,_,_,_, ?_,hp.1,by simp,hp.2,by simp,.sl (b := H.length) (by simp [Env.put]),hh⟩
           simp only [appendA,hu,hc,hx,hoA]
           simp [hn,h0,hc,g2,hroom,hsz,hlo,← hl,hw.2]
          ·exact qa1 hh
        ·exact qa1 hh
    ·exact qa1 hh
   ·exact qa1 hh
 ·exact qa1 hh
theorem chunk_flatten' {z : Nat} : ∀ {n : Nat} {as : List AVal},as.length = n * z → (chunk z n as).flatten = as
 | 0,as,h => by simp at h; subst h; rfl
 | n + 1,as,h => by
  simp only [chunk,List.flatten_cons]
  rw [chunk_flatten' (n := n) (by rw [List.length_drop,h,Nat.succ_mul]; omega),List.take_append_drop]
theorem castL_eq {n m : Nat} (em : n = m) (l : List (C.T n)) : (castL em l).map (C.enc m) = l.map (C.enc n) ∧ (castL em l).length = l.length := by
 subst em
 exact ⟨rfl,rfl⟩
theorem appendX_ok (hC : CodecOk C) {lo wlo : Nat} {t u : TypeId} {h : SH C} {H : Heap} (hS : SimH E lo wlo h H) {s x : SV C.T} {a b : AVal} (ha : Er E s a) (hb : Er E x b) {K : SV C.T → SH C → Tree} (hh : (appendX P wlo t u h s x K).holds) :
 Out E lo wlo h H (fun v H' => appendA P lo t u H a b = some (v,H')) K := by
 unfold appendX at hh
 split at hh
 case h_2 => exact qa1 hh
 rename_i e hu
 split at hh
 case isFalse => exact qa1 hh
 rename_i hc
 have hA : AppOk P t u e := ⟨hu,hc⟩
 split at hh
 ·exact qa1 hh
 ·rename_i rows hsrc
  obtain ⟨rA,hx,hr⟩ := srcS_ok hC hS hb hsrc (by intro e; cases e)
  have hr : RowsEr E (szOf P e) rows rA := hr
  split at hh
  ·exact qa1 hh
  ·rename_i hone
   have hone : rows.flatten.all oneS = true := by simpa using hone
   split at hh
   ·exact appendCells_ok hA hS (s := .a .nils) (x := x) ha hx hr hone hh
   ·rename_i s0 id off len cap ex
    exact appendCells_ok hA hS (s := .sl s0 id off len cap ex) (x := x) ha hx hr hone hh
   ·rename_i id
    split at hh
    ·rename_i n l full root ho
     split at hh
     ·rename_i hw
      split at hh
      ·exact qa1 hh
      ·rename_i xs hxs
       have hr' : RowsEr E (C.sz n) (xs.map (C.enc n)) rA := by
        rw [hw.1]
        exact decAll_ok hC hr hxs
       split at hh
       ·-- nothing
        have hr0 : rA = [] := qq (by rw [← hr'.1]; rfl)
        subst hr0
        cases ha with
        | R hg hs =>
         refine ⟨a,H,_,h,E, ?_,LeN.refl _ _,qf _,hS,qf _,.R hg hs,hh⟩
         rcases hS.obj id _ (hget_some ho) with ⟨rfl,hb0,a',g1,g2⟩ | ⟨b,off,cap,ex,as,g1,g2,gw,g3,g4,g5,g6,g7,g8⟩
         ·rw [hg] at g1
          simp only [qa] at g1
          subst g1
          rcases g2 with rfl | rfl
          ·simp [appendA,hu,hc,hx]
          ·simp [appendA,hu,hc,hx,hw.1]
         ·rw [hg] at g1
          simp only [qa] at g1
          subst g1
          have hcap := Nat.mul_le_mul_right (C.sz n) g4
          simp only [appendA,hu,hc,hx]
          simp [hw.1,g3,hc]
          rw [← hw.1]
          omega
       ·rename_i y ys
        split at hh
        ·rename_i hf
         obtain ⟨hsz,hk⟩ := hh
         obtain ⟨v,H',E',k1,k2,k3,k4,k5⟩ := appendRows_ok hC hA hS ho hw.1 hw.2 ha hx hr' (hf.imp_right fun h => by simp only [qn]; omega) hsz
         exact ⟨v,H',_,_,E',k1,k2,by simp,k3,k4,k5,hk⟩
        ·exact qa1 hh
     ·exact qa1 hh
    ·exact qa1 hh
   ·exact qa1 hh
 ·rename_i n l' hsrc
  obtain ⟨rA,hx,hz,hr⟩ := srcS_ok hC hS hb hsrc (by intro e; cases e)
  have hn : rA.length = l'.length := by rw [← hr.1]; simp
  have hoA : rA.flatten.all AVal.one = true := oneS_all (by rw [← hz] at *; exact hr.flatten) (enc_one hC l')
  rw [← hz] at hr
  have hfl : rA.flatten.length = l'.length * C.sz n := by rw [flat_len hr.lens,hn]
  split at hh
  ·cases ha
   obtain ⟨hsz,hk⟩ := hh
   by_cases h0 : l'.length = 0
   ·have hl0 : l' = [] := qq h0
    subst hl0
    have hr0 : rA = [] := qq (by rw [hn]; rfl)
    subst hr0
    have e1 : h.set h.length none = h := by
     apply List.ext_getElem?
     intro j
     rw [qh]
     split
     ·rename_i hj; subst hj; simp
     ·rfl
    have hput := hS.put (H' := H) h.length (.rows n [] true h.length) none .nils h.length (qf _) (fun b _ hne => (hne rfl).elim) (fun b hb => by cases hb) (fun hle => .inl ⟨rfl,by simp [Env.put],.nils,by simp [Env.put],.inl rfl⟩)
    rw [e1] at hput
    refine ⟨.nils,H,_,_,_, ?_,hput.1,by simp,hput.2,qf _,.R (by simp [Env.put]) rfl,hk⟩
    simp [appendA,hu,hc,hx]
   ·have hp := hS.pushEnd (.rows n l' true h.length) (.sl (szOf P e) H.length 0 l'.length l'.length false) (.cells rA.flatten) (fun hle => by
     have := new_rows hC (E' := E.put h.length (some H.length) (.sl (szOf P e) H.length 0 l'.length l'.length false) h.length) (H' := H ++ [some (.cells rA.flatten)]) (id := h.length) (p := H.length) (root := h.length) (l := l') (full := true)
      (by simp [Env.put,hz]) (by simp [Env.put]) (by simp [Env.put]) get_push (hr.mono hle.le)
     exact this)
    refine ⟨.sl (szOf P e) H.length 0 l'.length l'.length false,_,_,_,_, ?_,hp.1,by simp,hp.2,by simp,.R (by simp [Env.put]) rfl,hk⟩
    simp only [appendA,hu,hc,hx,hoA]
    simp [hn,h0,hc,hsz]
  ·rename_i id
   split at hh
   ·rename_i m l full root ho
    split at hh
    ·rename_i hw
     split at hh
     ·rename_i em
      obtain ⟨hsz,hk⟩ := hh
      obtain ⟨c1,c2⟩ := castL_eq em l'
      have hr' : RowsEr E (C.sz m) ((castL em l').map (C.enc m)) rA := by
       rw [c1,← em]
       exact hr
      obtain ⟨v,H',E',k1,k2,k3,k4,k5⟩ := appendRows_ok hC hA hS ho hw.1 hw.2.1 ha hx hr' (.inl hw.2.2) (by rw [c2]; exact hsz)
      exact ⟨v,H',_,_,E',k1,k2,by simp,k3,k4,k5,hk⟩
     ·exact qa1 hh
    ·exact qa1 hh
   ·exact qa1 hh
  ·rename_i s0 id off len cap ex
   split at hh
   ·rename_i cs ho
    split at hh
    ·rename_i hcond
     obtain ⟨rfl,hw,hend,rfl,rfl⟩ := hcond
     split at hh
     ·exact qa1 hh
     ·rename_i xs hxs
      obtain ⟨hsz,hk⟩ := hh
      cases ha with
      | sl hb2 =>
       rename_i bb
       have hid := hget_some ho
       obtain ⟨b',as,g1,gw,g2,g3⟩ := hS.obj id _ hid
       rw [hb2] at g1
       simp only [qa] at g1
       subst g1
       have hl := g3.1
       have hlo := hS.low id bb hw hb2
       have hblt := lt_of_some g2
       have hch := decAll_ok hC (chunkS_ok (n := cap) (z := szOf P e) (g3.drop off) (by simp; omega)) hxs
       rw [← hz] at hch
       have hxl : xs.length = cap := by
        have := hch.1
        rw [chunk_len] at this
        simpa using this
       have hcf : (chunk (C.sz n) cap (as.drop off)).flatten = as.drop off := chunk_flatten' (by rw [hz]; simp; omega)
       have hpre : RowsAt E n xs (as.drop off) 0 := RowsAt.of_flat hC hch fun k hk => by rw [Nat.zero_add,hcf]
       have hdl : (as.drop off).length = xs.length * C.sz n := by rw [hxl,hz]; simp; omega
       by_cases h0 : l'.length = 0
       ·have hl0 : l' = [] := qq h0
        subst hl0
        have hr0 : rA = [] := qq (by rw [hn]; rfl)
        subst hr0
        have hput := hS.put (H' := H) id (.rows n (xs ++ []) true id) (some bb) (.sl (szOf P e) bb off cap cap false) id (qf _) (fun b _ hne => (hne rfl).elim) (fun b' hb => by
         simp only [qa] at hb
         subst hb
         exact ⟨hblt,hlo,fun cs hfr => (hS.fr _ cs hfr).2 id _ hid hb2,fun i o hi hio hbi => hi (hS.inj i id o _ _ hio hid hbi hb2),.inr gw⟩)
         (fun hle => .inr ⟨bb,off,cap,false,as,by simp [Env.put,hxl,hz],by simp [Env.put],by simp [Env.put],g2,by simp [hxl],by rw [hz]; omega,.inr (by rw [hz]; omega),fun _ => .inr (by simp [hxl]),by
          rw [List.append_nil]
          intro i y j xx aa q1 q2 q3
          refine (hpre.mono hle.le) i y j xx aa q1 q2 ?_
          rw [qw,Nat.zero_add,← Nat.add_assoc]
          exact q3⟩)
        refine ⟨.sl (szOf P e) bb off cap cap false,H,_,_,_, ?_,hput.1,by simp,hput.2,qf _,.R (by simp [Env.put]) rfl,hk⟩
        simp only [appendA,hu,hc,hx]
        simp [g2,hc]
        omega
       ·have hp := hS.put (H' := H.set bb none ++ [some (.cells (as.drop off ++ rA.flatten))]) id (.rows n (xs ++ l') true id) (some H.length) (.sl (szOf P e) H.length 0 (cap + l'.length) (cap + l'.length) false) id (by simp)
         (fun q hq hne => by
          rw [qg (by simpa using hq),qh] at hne
          split at hne
          ·rename_i e1
           subst e1
           exact ⟨fun cs hfr => (hS.fr _ cs hfr).2 id _ hid hb2,fun i o hi hio hbi => hi (hS.inj i id o _ _ hio hid hbi hb2)⟩
          ·exact (hne rfl).elim)
         (fun q hq => by
          simp only [qa] at hq
          subst hq
          refine ⟨by simp,hS.ll,fun cs hfr => ?_,fun i o hi hio hbi => ?_,.inl ⟨?_,qf _⟩⟩
          ·have := lt_of_some (hS.fr _ cs hfr).1; omega
          ·have := hS.bnd i _ hbi; omega
          ·cases hwn : E.ω H.length with
           | none => rfl
           | some r => have := (hS.own _ r hwn).1; omega)
         (fun hle => .inr ⟨H.length,0,cap + l'.length,false,as.drop off ++ rA.flatten,by simp [Env.put,hxl,hz],by simp [Env.put],by simp [Env.put],by rw [qk (by simp)]; simp,by simp [hxl],
          by rw [qo,hdl,hfl,hxl,Nat.add_mul]; omega,.inr (by rw [qo,hdl,hfl,hxl,Nat.add_mul]; omega),fun _ => .inr (by simp [hxl]),by
          refine RowsAt.append hC (hpre.mono hle.le) (hr.mono hle.le) ?_ ?_
          ·intro k hk
           rw [Nat.zero_add,qg (by omega)]
          ·intro k hk
           rw [Nat.zero_add,qk (by omega),hdl,Nat.add_sub_cancel_left]⟩)
        refine ⟨.sl (szOf P e) H.length 0 (cap + l'.length) (cap + l'.length) false,_,_,_,_, ?_,hp.1,by simp,hp.2,by simp,.R (by simp [Env.put]) rfl,hk⟩
        have hsz' : (cap + l'.length) * P.bytesOf e ≤ 140737488355328 := by rw [← hxl]; exact hsz
        simp only [appendA,hu,hc,hx,hoA]
        simp [hn,h0,hc,g2,hlo,← hl,hend,hsz']
        omega
    ·exact qa1 hh
   ·exact qa1 hh
  ·exact qa1 hh
end Go.Sy

/- Cuts of slices, and all quiet operations at once. Generic: over any program. -/
namespace Go.Sy
open Go.Am
set_option linter.unusedVariables false
set_option linter.unusedSimpArgs false
variable {C : Codec} {E : Env} {P : Program}
inductive ErO (E : Env) : Option (SV C.T) → Option AVal → Prop
 | none : ErO E none none
 | some {x : SV C.T} {a : AVal} : Er E x a → ErO E (some x) (some a)
theorem bndN_bound {d : Nat} {x : Option (SV C.T)} {a : Option AVal} {r y : Nat} (hx : ErO E x a) (h : bndN d x = some r) (hr : r ≤ y) : boundA d y a = some r := by
 cases hx with
 | none => simp only [bndN,qa] at h; subst h; rfl
 | some hx =>
  unfold bndN at h
  split at h
  ·rename_i e; cases e
  ·rename_i k m e
   simp only [qa] at h e
   subst h e
   cases hx
   simp [boundA,idxA,hr]
  ·cases h
theorem bndI_bound {d : Int} {x : Option (SV C.T)} {a : Option AVal} {r : Int} {y : Nat} (hx : ErO E x a) (h : bndI d x = some r) (h0 : 0 ≤ r) (hr : r ≤ (y : Int)) : boundA d.toNat y a = some r.toNat := by
 cases hx with
 | none => simp only [bndI,qa] at h; subst h; rfl
 | some hx =>
  simp only [bndI,qd] at h
  obtain ⟨⟨k,n⟩,h1,rfl⟩ := h
  rw [intOf_ok hx h1]
  simp only [boundA,idxA,h0,if_true]
  rw [if_pos (by omega)]
theorem litO_ok {x : Option (SV C.T)} {a : Option AVal} {r : Option AVal} (hx : ErO E x a) (h : litO x = some r) : a = r := by
 cases hx with
 | none => simp only [litO,qa] at h; exact h
 | some hx =>
  unfold litO at h
  split at h
  ·rename_i e; cases e
  ·rename_i v e
   simp only [qa] at h e
   subst h e
   cases hx
   rfl
  ·cases h
theorem sliceA_nil {t : TypeId} {H : Heap} {v r : AVal} {lo hi mx : Option AVal} (h : sliceA P t [] v lo hi mx = some r) : sliceA P t H v lo hi mx = some r := by
 unfold sliceA at h ⊢
 split at h
 ·exact h
 ·exact h
 ·split at h
  ·rename_i hc
   rw [if_pos hc]
   split at h
   ·simp at h
   ·exact h
   ·cases h
  ·cases h
 ·cases h
theorem RowsAt.cut {n : Nat} {l : List (C.T n)} {as : List AVal} {off p q : Nat} (h : RowsAt E n l as off) : RowsAt E n ((l.drop p).take q) as (off + p * C.sz n) := by
 intro i y j x a h1 h2 h3
 rw [qx] at h1
 split at h1
 ·rw [qw] at h1
  refine h (p + i) y j x a h1 h2 ?_
  rw [Nat.add_mul,← Nat.add_assoc]
  exact h3
 ·cases h1
theorem sliceS_ok {lo wlo : Nat} {t : TypeId} {h : SH C} {H : Heap} (hS : SimH E lo wlo h H) {x : SV C.T} {a : AVal} {l u m : Option (SV C.T)} {l' u' m' : Option AVal} (hx : Er E x a) (hl : ErO E l l') (hu : ErO E u u') (hm : ErO E m m') {K : SV C.T → SH C → Tree} (hh : (sliceS P wlo t h x l u m K).holds) :
 Out E lo wlo h H (fun v H' => sliceA P t H a l' u' m' = some v ∧ H' = H) K := by
 have str : ∀ {s : List UInt8} {p q : Int},P.underlying t = some .string → m = none → bndI 0 l = some p → bndI s.length u = some q → 0 ≤ p ∧ p ≤ q ∧ q ≤ (s.length : Int) →
  (K (.s ((s.drop p.toNat).take (q.toNat - p.toNat))) h).holds → Out E lo wlo h H (fun v H' => sliceA P t H (.str s) l' u' m' = some v ∧ H' = H) K := by
  intro s p q ht hm0 hp hq hb hk
  subst hm0
  cases hm
  have e1 := bndI_bound (y := s.length) hu hq (by omega) hb.2.2
  have e2 := bndI_bound (y := q.toNat) hl hp hb.1 (by omega)
  simp only [Int.toNat_natCast] at e1
  refine ⟨_,H,_,h,E,⟨?_,rfl⟩,LeN.refl _ _,qf _,hS,qf _,.s _,hk⟩
  simp only [sliceA,ht,e1,Option.bind_some]
  simp only [Int.toNat_zero] at e2
  rw [e2]
  rfl
 unfold sliceS at hh
 split at hh
 ·rename_i v
  split at hh
  ·rename_i l1 u1 m1 e1 e2 e3
   cases hx
   obtain ⟨r,h1,h2⟩ := opt_some hh
   rw [litO_ok hl e1,litO_ok hu e2,litO_ok hm e3]
   exact ⟨r,H,_,h,E,⟨sliceA_nil h1,rfl⟩,LeN.refl _ _,qf _,hS,qf _,.a _,h2⟩
  ·split at hh
   ·rename_i s hs ht hneg
    split at hh
    ·rename_i p q hp hq
     rw [strOf_ok hx hs]
     exact str ht rfl hp hq hh.1 hh.2
    ·exact qa1 hh
   ·exact qa1 hh
 ·rename_i s
  split at hh
  ·rename_i ht
   split at hh
   ·rename_i p q hp hq
    cases hx
    exact str ht rfl hp hq hh.1 hh.2
   ·exact qa1 hh
  ·exact qa1 hh
 ·rename_i n ll
  split at hh
  ·rename_i e ht
   split at hh
   ·rename_i hc
    split at hh
    ·split at hh
     ·rename_i p q hp hq
      obtain ⟨⟨hb0,hb1,hb2⟩,hk⟩ := hh
      cases hm
      have e1 := bndI_bound (y := ll.length) hu hq (by omega) hb2
      have e2 := bndI_bound (y := q.toNat) hl hp hb0 (by omega)
      simp only [Int.toNat_natCast,Int.toNat_zero] at e1 e2
      have hlen : ((ll.drop p.toNat).take (q.toNat - p.toNat)).length = q.toNat - p.toNat := by simp; omega
      cases hx with
      | tlN =>
       simp only [List.length_nil] at e1 hb2
       refine ⟨.nils,H,_,h,E,⟨?_,rfl⟩,LeN.refl _ _,qf _,hS,qf _, ?_,hk⟩
       ·simp only [sliceA,ht,hc.1,if_true,e1,Option.bind_some,e2,Option.map_some]
       ·simp only [List.drop_nil,List.take_nil]
        exact .tlN
      | tlL hz hll hs hr =>
       rename_i z rows ex
       refine ⟨.list z ((rows.drop p.toNat).take (q.toNat - p.toNat)) (ex && q.toNat == rows.length),H,_,h,E,⟨?_,rfl⟩,LeN.refl _ _,qf _,hS,qf _, ?_,hk⟩
       ·simp only [sliceA,ht,hc.1,if_true,hz,hc.2,hll,e1,Option.bind_some,e2,Option.map_some]
       ·refine .tlL hz (by simp [hll]) ?_ ?_
        ·intro i r hi
         rw [qx] at hi
         split at hi
         ·rw [qw] at hi; exact hs _ r hi
         ·cases hi
        ·intro i y r j xx aa h1 h2 h3 h4
         rw [qx] at h1 h2
         split at h1
         ·rename_i hlt
          rw [if_pos hlt] at h2
          rw [qw] at h1 h2
          exact hr _ y r j xx aa h1 h2 h3 h4
         ·cases h1
      | tlS hz hll hf ho hcap hr =>
       rename_i z b off len cap as ex
       subst hll
       refine ⟨.sl z b (off + p.toNat * z) (q.toNat - p.toNat) (cap - p.toNat) ex,H,_,h,E,⟨?_,rfl⟩,LeN.refl _ _,qf _,hS,qf _, ?_,hk⟩
       ·have e1' := bndI_bound (y := cap) hu hq (by omega) (by omega)
        simp only [Int.toNat_natCast] at e1'
        simp only [sliceA,ht,hc.1,if_true,hz,hc.2,e1',Option.bind_some,e2,Option.map_some]
       ·subst hz
        have hmul : p.toNat * C.sz n + (q.toNat - p.toNat) * C.sz n ≤ ll.length * C.sz n := by
         rw [← Nat.add_mul]
         exact Nat.mul_le_mul_right _ (by omega)
        exact .tlS rfl hlen.symm hf (by rw [hlen]; omega) (by rw [hlen]; omega) (RowsAt.cut hr)
     ·exact qa1 hh
    ·rename_i mm
     split at hh
     ·rename_i uu e1 e2
      split at hh
      ·rename_i e3
       cases hm with
       | some hmm =>
       cases hu with
       | some huu =>
       rename_i am au
       have b1 : boundA 0 0 l' = some 0 := bndN_bound hl e1 (qf _)
       have b2 : boundA 0 0 (some au) = some 0 := bndN_bound (.some huu) e3 (qf _)
       have b3 : ∀ y,boundA 0 y (some am) = some 0 := fun y => bndN_bound (.some hmm) e2 (Nat.zero_le _)
       have key : ∀ (v : AVal),isSlB v = true → EmptyA E (C.sz n) v → sliceA P t H a l' (some au) (some am) = some v → Out E lo wlo h H (fun v H' => sliceA P t H a l' (some au) (some am) = some v ∧ H' = H) K := by
        intro v hvs hv he
        have hn0 : h.set h.length none = h := by
         apply List.ext_getElem?
         intro j
         rw [qh]
         split
         ·rename_i hj; subst hj; simp
         ·rfl
        have hput := hS.put (H' := H) h.length (.rows n [] true h.length) none v h.length (qf _) (fun b _ hne => (hne rfl).elim) (fun b hb => by cases hb) (fun hle => .inl ⟨rfl,by simp [Env.put],v,by simp [Env.put],hv⟩)
        rw [hn0] at hput
        exact ⟨v,H,_,_,_,⟨he,rfl⟩,hput.1,by simp,hput.2,qf _,.R (by simp [Env.put]) hvs,hh⟩
       cases hx with
       | tlN => exact key .nils rfl (.inl rfl) (by simp only [sliceA,ht,hc.1,if_true,Option.isSome_some,b3,Option.bind_some,b2,b1,Option.map_some])
       | tlL hz hll hs hr =>
        refine key (.list (C.sz n) [] true) rfl (.inr rfl) ?_
        simp only [sliceA,ht,hc.1,if_true,Option.isSome_some,hz,hc.2,and_self,b3,Option.bind_some,b2,b1,Option.map_some]
        simp
       | tlS hz hll hf ho hcap hr =>
        rename_i z b off len cap as ex
        refine key (.list (C.sz n) [] true) rfl (.inr rfl) ?_
        simp only [sliceA,ht,hc.1,if_true,Option.isSome_some,hz,hc.2,and_self,b3,Option.bind_some,b2,b1,Option.map_some]
        simp
      ·exact qa1 hh
     ·exact qa1 hh
   ·exact qa1 hh
  ·exact qa1 hh
 ·rename_i id
  split at hh
  ·rename_i e n ll full root ht ho
   split at hh
   ·rename_i hc
    split at hh
    ·rename_i p q hp hq
     obtain ⟨⟨hb0,hb1,hb2⟩,hk⟩ := hh
     cases hm
     have e1 := bndI_bound (y := ll.length) hu hq (by omega) hb2
     have e2 := bndI_bound (y := q.toNat) hl hp hb0 (by omega)
     simp only [Int.toNat_natCast,Int.toNat_zero] at e1 e2
     have hlen : ((ll.drop p.toNat).take (q.toNat - p.toNat)).length = q.toNat - p.toNat := by simp; omega
     have hid := hget_some ho
     cases hx with
     | R hg hs =>
     rcases hS.obj id _ hid with ⟨rfl,hb0',a',g1,g2⟩ | ⟨b,off,cap,ex,as,g1,g2,gw,g3,g4,g5,g6,g7,g8⟩
     ·rw [hg] at g1
      simp only [qa] at g1
      subst g1
      simp only [List.length_nil] at hb2 e1
      have hp0 : p.toNat = 0 := by omega
      have hq0 : q.toNat = 0 := by omega
      rw [hq0] at e1 e2
      rw [hp0] at e2
      have hnew : EmptyA E (C.sz n) a ∧ sliceA P t H a l' u' none = some a := by
       refine ⟨g2, ?_⟩
       rcases g2 with rfl | rfl
       ·simp only [sliceA,ht,hc.1,if_true,e1,Option.bind_some,e2,Option.map_some]
       ·simp only [sliceA,ht,hc.1,if_true,hc.2.1,List.length_nil,e1,Option.bind_some,e2,Option.map_some]
        simp
      have hput := hS.put (H' := H) id (.rows n ((([] : List (C.T n)).drop p.toNat).take (q.toNat - p.toNat)) (full && u.isNone) root) none a root (qf _) (fun b _ hne => (hne rfl).elim) (fun b hb => by cases hb)
       (fun hle => .inl ⟨by simp,by simp [Env.put],a,by simp [Env.put],hnew.1⟩)
      exact ⟨a,H,_,_,_,⟨hnew.2,rfl⟩,hput.1,by simp,hput.2,qf _,.R (by simp [Env.put]) hs,hk⟩
     ·rw [hg] at g1
      simp only [qa] at g1
      subst g1
      have e1' := bndI_bound (y := cap) hu hq (by omega) (by omega)
      simp only [Int.toNat_natCast] at e1'
      have hblt := lt_of_some g3
      have hpc : p.toNat * C.sz n + (cap - p.toNat) * C.sz n = cap * C.sz n := by rw [← Nat.add_mul]; congr 1; omega
      have hput := hS.put (H' := H) id (.rows n ((ll.drop p.toNat).take (q.toNat - p.toNat)) (full && u.isNone) root) (some b) (.sl (C.sz n) b (off + p.toNat * C.sz n) (q.toNat - p.toNat) (cap - p.toNat) ex) root (qf _) (fun b _ hne => (hne rfl).elim)
       (fun b' hb => by
        simp only [qa] at hb
        subst hb
        exact ⟨hblt,hS.low id b hc.2.2 g2,fun cs hfr => (hS.fr _ cs hfr).2 id _ hid g2,fun i o hi hio hbi => hi (hS.inj i id o _ _ hio hid hbi g2),.inr gw⟩)
       (fun hle => .inr ⟨b,off + p.toNat * C.sz n,cap - p.toNat,ex,as,by simp only [Env.put,if_true,hlen],by simp [Env.put],by simp [Env.put],g3,by rw [hlen]; omega,by omega,g6.imp_right fun h => by omega,by
        intro hfu
        simp only [qj,Option.isNone_iff_eq_none] at hfu
        rcases g7 hfu.1 with h1 | h1
        ·exact .inl h1
        ·right
         have hun := hfu.2
         subst hun
         simp only [bndI,qa] at hq
         rw [hlen]
         omega,(RowsAt.cut g8).mono hle.le⟩)
      exact ⟨.sl (C.sz n) b (off + p.toNat * C.sz n) (q.toNat - p.toNat) (cap - p.toNat) ex,H,_,_,_,⟨by simp only [sliceA,ht,hc.1,if_true,hc.2.1,e1',Option.bind_some,e2,Option.map_some],rfl⟩,hput.1,by simp,hput.2,qf _,.R (by simp [Env.put]) rfl,hk⟩
    ·exact qa1 hh
   ·exact qa1 hh
  ·exact qa1 hh
 ·rename_i sz id off len cap ex
  split at hh
  ·rename_i e ht
   split at hh
   ·rename_i hc
    obtain ⟨hc1,rfl⟩ := hc
    cases hx with
    | sl hb =>
    rename_i b
    split at hh
    ·cases hm
     split at hh
     ·rename_i p q hp hq
      split at hh
      ·rename_i hb2
       have e1 := bndN_bound (y := cap) hu hq hb2.2
       have e2 := bndN_bound (y := q) hl hp hb2.1
       exact ⟨_,H,_,h,E,⟨by simp only [sliceA,ht,hc1,if_true,e1,Option.bind_some,e2,Option.map_some],rfl⟩,LeN.refl _ _,qf _,hS,qf _,.sl hb,hh⟩
      ·exact qa1 hh
     ·exact qa1 hh
    ·rename_i mm
     split at hh
     ·rename_i p uu q' hp hq'
      split at hh
      ·rename_i q hq
       split at hh
       ·rename_i hb2
        cases hm with
        | some hmm =>
        cases hu with
        | some huu =>
        have e0 := bndN_bound (y := cap) (.some hmm) hq' hb2.2.2
        have e1 := bndN_bound (y := q') (.some huu) hq hb2.2.1
        have e2 := bndN_bound (y := q) hl hp hb2.1
        by_cases hmp : q' ≤ p
        ·have : Nat.ble q' p = true := by rw [Nat.ble_eq]; exact hmp
         rw [this] at hh
         exact ⟨_,H,_,h,E,⟨by simp only [sliceA,ht,hc1,if_true,Option.isSome_some,and_self,e0,e1,Option.bind_some,e2,Option.map_some]; rw [if_pos hmp],rfl⟩,LeN.refl _ _,qf _,hS,qf _,.a _,hh⟩
        ·have : Nat.ble q' p = false := by rw [Bool.eq_false_iff]; intro e; rw [Nat.ble_eq] at e; exact hmp e
         rw [this] at hh
         exact ⟨_,H,_,h,E,⟨by simp only [sliceA,ht,hc1,if_true,Option.isSome_some,and_self,e0,e1,Option.bind_some,e2,Option.map_some]; rw [if_neg hmp],rfl⟩,LeN.refl _ _,qf _,hS,qf _,.sl hb,hh⟩
       ·exact qa1 hh
      ·exact qa1 hh
     ·exact qa1 hh
   ·exact qa1 hh
  ·exact qa1 hh
 ·rename_i id off
  split at hh
  ·rename_i n e cs ht ho
   split at hh
   ·rename_i hc
    split at hh
    ·rename_i p q hp hq
     split at hh
     ·rename_i hb2
      cases hm
      cases hx with
      | ptr hb =>
      obtain ⟨b',as,g1,gw,g2,g3⟩ := hS.obj id _ (hget_some ho)
      rw [hb] at g1
      simp only [qa] at g1
      subst g1
      have hll := g3.1
      have e1 := bndN_bound (y := n) hu hq hb2.2
      have e2 := bndN_bound (y := q) hl hp hb2.1
      refine ⟨_,H,_,h,E,⟨?_,rfl⟩,LeN.refl _ _,qf _,hS,qf _,.sl hb,hh⟩
      simp only [sliceA,ht,hc.1,Option.isNone_none,and_self,if_true,g2]
      rw [if_pos (by omega),e1,Option.bind_some,e2]
      rfl
     ·exact qa1 hh
    ·exact qa1 hh
   ·exact qa1 hh
  ·exact qa1 hh
 ·exact qa1 hh
end Go.Sy

/- Operations one behind the other over symbolic values are sound. Generic: over any program. -/
namespace Go.Sy
open Go.Am
set_option linter.unusedVariables false
set_option linter.unusedSimpArgs false
variable {C : Codec} {E : Env}
theorem ErO.map {ev : Operand → SV C.T} {ea : Operand → AVal} (hev : ∀ x,Er E (ev x) (ea x)) (o : Option Operand) : ErO E (o.map ev) (o.map ea) := by
 cases o with
 | none => exact .none
 | some x => exact .some (hev x)
theorem Ers.map {ev : Operand → SV C.T} {ea : Operand → AVal} (hev : ∀ x,Er E (ev x) (ea x)) : ∀ (l : List Operand),Ers E (l.map ev) (l.map ea)
 | [] => Ers.nil
 | x :: l => (Ers.map hev l).cons (hev x)
theorem quietX_ok {S : AStat} (hC : CodecOk C) {lo wlo : Nat} {ρ : List AVal} {ev : Operand → SV C.T} (hev : ∀ x,Er E (ev x) (evalA S ρ x)) {h : SH C} {H : Heap} (hS : SimH E lo wlo h H) {op : Op} {K : SV C.T → SH C → Tree} (hh : (quietX S wlo ev h op K).holds) :
 Out E lo wlo h H (fun v H' => quietA S ρ H op = some v ∧ H' = H) K := by
 have ret : ∀ {x : Option AVal} {a : AVal} {sv : SV C.T},x = some a → Er E sv a → (K sv h).holds → Ret E x (fun v => K v h) := fun h1 h2 h3 => ⟨_,_,h1,h2,h3⟩
 unfold quietX at hh
 split at hh
 ·exact .of_ret hS (ret rfl (hev _) hh)
 ·exact .of_ret hS (ret rfl (hev _) hh)
 ·rename_i c a b
  refine .of_ret hS ?_
  have hc := hev c
  unfold pickS at hh
  split at hh
  ·rename_i e
   rw [e] at hc
   generalize hv : evalA S ρ c = v at hc
   cases hc
   exact ret (by simp only [quietA,hv]) (hev a) hh
  ·rename_i e
   rw [e] at hc
   generalize hv : evalA S ρ c = v at hc
   cases hc
   exact ret (by simp only [quietA,hv]) (hev b) hh
  ·rename_i t e
   rw [e] at hc
   generalize hv : evalA S ρ c = v at hc
   cases hc
   rcases fork_cases hh with ⟨rfl,h1⟩ | ⟨rfl,h1⟩
   ·exact ret (by simp only [quietA,hv]) (hev a) h1
   ·exact ret (by simp only [quietA,hv]) (hev b) h1
  ·exact qa1 hh
 ·rename_i t parts
  have hp : PartsOk E (parts.toList.map fun p => (p.1,ev p.2)) (parts.toList.map fun p => (p.1,evalA S ρ p.2)) := by
   generalize parts.toList = l
   induction l with
   | nil => exact .nil
   | cons p l ih => exact .cons (hev p.2) ih
  exact .of_ret hS (buildS_ok hp hh)
 ·exact .of_ret hS (loadS_ok hC hS (hev _) hh)
 ·rename_i x
  refine .of_ret hS ?_
  have hx := hev x
  unfold nilCheckS at hh
  split at hh
  ·rename_i e
   rw [e] at hx
   generalize hv : evalA S ρ x = v at hx
   cases hx with
   | ptr hb => exact ret (by simp only [quietA,hv,nilCheckA]) (.ptr hb) hh
  ·rename_i e
   rw [e] at hx
   generalize hv : evalA S ρ x = v at hx
   cases hx with
   | ep hb => exact ret (by simp only [quietA,hv,nilCheckA]) (.ep hb) hh
  ·rename_i e
   rw [e] at hx
   generalize hv : evalA S ρ x = v at hx
   cases hx with
   | fpI e1 hl hr => exact ret (by simp only [quietA,hv,nilCheckA]) (.fpI e1 hl hr) hh
   | fpP hf e1 hl hr => exact ret (by simp only [quietA,hv,nilCheckA]) (.fpP hf e1 hl hr) hh
  ·rename_i e
   rw [e] at hx
   generalize hv : evalA S ρ x = v at hx
   cases hx with
   | fn h1 h2 h3 h4 => exact ret (by simp only [quietA,hv,nilCheckA]) (.fn h1 h2 h3 h4) hh
  ·rename_i e
   rw [e] at hx
   generalize hv : evalA S ρ x = v at hx
   cases hx
   obtain ⟨r,h1,h2⟩ := opt_some hh
   exact ret (by simp only [quietA,hv]; exact h1) (.a _) h2
  ·exact qa1 hh
 ·exact .of_ret hS (binS_ok (hev _) (hev _) hh)
 ·exact .of_ret hS (unS_ok (hev _) hh)
 ·exact .of_ret hS (convS_ok hS (hev _) hh)
 ·rename_i t x
  split at hh
  ·exact qa1 hh
  ·rename_i hne
   exact .of_ret hS (ret (by simp only [quietA]; rw [if_neg hne]) (.iface (hev x)) hh)
 ·rename_i f first captured
  refine .of_ret hS (ret rfl ?_ hh)
  have h1 := Ers.map hev first.toList
  have h2 := Ers.map hev captured.toList
  exact .fn h1.1 h1.2 h2.1 h2.2
 ·exact sliceS_ok hS (hev _) (.map hev _) (.map hev _) (.map hev _) hh
 ·exact .of_ret hS (fieldAddrS_ok (hev _) hh)
 ·exact .of_ret hS (fieldS_ok (hev _) hh)
 ·exact .of_ret hS (indexAddrS_ok hC hS (hev _) (hev _) hh)
 ·exact .of_ret hS (indexS_ok (hev _) (hev _) hh)
 ·rename_i x i
  refine .of_ret hS ?_
  have hx := hev x
  unfold extractS at hh
  split at hh
  ·rename_i e
   rw [e] at hx
   generalize hv : evalA S ρ x = v at hx
   cases hx with
   | tup hl hr =>
    obtain ⟨r,h1,h2⟩ := opt_some hh
    have hE : Ers E _ _ := ⟨hl,hr⟩
    obtain ⟨w,h3,h4⟩ := hE.get h1
    exact ret (by simp only [quietA,hv]; exact h3) h4 h2
  ·rename_i e
   rw [e] at hx
   generalize hv : evalA S ρ x = v at hx
   cases hx
   obtain ⟨r,h1,h2⟩ := opt_some hh
   exact ret (by simp only [quietA,hv]; exact h1) (.a _) h2
  ·exact qa1 hh
 ·exact .of_ret hS (lookupS_ok hS (hev _) (hev _) hh)
 ·exact .of_ret hS (typeAssertS_ok (hev _) hh)
 ·rename_i c
  obtain ⟨callee,args,ts⟩ := c
  simp only at hh
  have mn : ∀ {mx : Bool},(minS mx (args.toList.map ev) fun v => K v h).holds → ∃ k m k' n,args.toList.map (evalA S ρ) = [.int k m,.int k' n] ∧ ∃ sv,Er E sv (.int k (bif mx then (if m < n then n else m) else (if n < m then n else m))) ∧ (K sv h).holds := by
   intro mx hm
   unfold minS at hm
   split at hm
   ·rename_i x y e
    have hE := Ers.map hev args.toList
    rw [e] at hE
    obtain ⟨a,as,e1,h1,hE⟩ := hE.inv_cons
    obtain ⟨b,bs,e2,h2,hE⟩ := hE.inv_cons
    obtain rfl := hE.inv_nil
    subst e2
    split at hm
    ·rename_i k m k' n q1 q2
     rw [intOf_ok h1 q1,intOf_ok h2 q2] at e1
     refine ⟨k,m,k',n,e1, ?_⟩
     cases hl : isLit x && isLit y with
     | true => rw [hl] at hm; exact ⟨_,.a _,hm⟩
     | false => rw [hl] at hm; exact ⟨_,.i _ _,hm⟩
    ·exact qa1 hm
   ·exact qa1 hm
  split at hh
  ·split at hh
   ·rename_i t x h1 h2
    have := lenS_ok hS (hev x) hh
    exact .of_ret hS (by simp only [quietA,h1,h2]; exact this)
   ·exact qa1 hh
  ·obtain ⟨k,m,k',n,e,sv,h1,h2⟩ := mn hh
   exact .of_ret hS (ret (by simp only [quietA,e]; rfl) h1 h2)
  ·obtain ⟨k,m,k',n,e,sv,h1,h2⟩ := mn hh
   exact .of_ret hS (ret (by simp only [quietA,e]; rfl) h1 h2)
  ·exact qa1 hh
 ·exact qa1 hh
def CallOkX (S : AStat) (call : CallX C) : Prop := ∀ (E : Env) (lo wlo : Nat) (f : FuncId) (args : List (SV C.T)) (h : SH C) (H : Heap) (K : SV C.T → SH C → Tree) (av : List AVal),(call wlo f args h K).holds → SimH E lo wlo h H → Ers E args av →
 Out E lo wlo h H (fun v H' => ∃ n,callA S (execA S n) lo f av H = some (v,H')) K
def ExtNo (S : AStat) (noExt : FuncId → Bool) : Prop := ∀ f,noExt f = true → ∀ as,S.ext f as = none
theorem litsS_ok {E : Env} : ∀ {xs : List (SV C.T)} {as bs : List AVal},Ers E xs as → litsS xs = some bs → as = bs
 | [],_,_,h,e => by
  rw [h.inv_nil]
  simpa [litsS] using e
 | x :: xs,_,_,h,e => by
  obtain ⟨a,as,rfl,h1,h2⟩ := h.inv_cons
  cases x <;> simp only [litsS,reduceCtorEq] at e
  rw [qd] at e
  obtain ⟨cs,e1,rfl⟩ := e
  cases h1
  rw [litsS_ok h2 e1]
theorem ifaceS_ok {E : Env} {x v : SV C.T} {a : AVal} {t : TypeId} (h : Er E x a) (e : ifaceS x = some (t,v)) : ∃ w,a = .iface t w ∧ Er E v w := by
 unfold ifaceS at e
 split at e
 ·simp only [qa,qe] at e
  obtain ⟨rfl,rfl⟩ := e
  cases h with
  | iface h => exact ⟨_,rfl,h⟩
 ·simp only [qa,qe] at e
  obtain ⟨rfl,rfl⟩ := e
  cases h
  exact ⟨_,rfl,.a _⟩
 ·cases e
theorem callG_ok {S : AStat} {noExt : FuncId → Bool} (hE : ExtNo S noExt) {call : CallX C} (hcall : CallOkX S call) {lo wlo : Nat} {h : SH C} {H : Heap} (hS : SimH E lo wlo h H) {g : FuncId} {xs : List (SV C.T)} {av : List AVal} (hA : Ers E xs av) {K : SV C.T → SH C → Tree}
 (hh : (callG S noExt call wlo g xs h K).holds) : Out E lo wlo h H (fun v H' => ∃ n,(match S.ext g av with | some v => some (v,H) | none => callA S (execA S n) lo g av H) = some (v,H')) K := by
 unfold callG at hh
 cases hx : noExt g with
 | true =>
  rw [hx] at hh
  refine (hcall E lo wlo g _ h H K _ hh hS hA).mono ?_
  rintro r H' ⟨n,h3⟩
  exact ⟨n,by simp only [hE g hx,h3]⟩
 | false =>
  rw [hx] at hh
  simp only [cond_false] at hh
  split at hh
  ·rename_i as hl
   have hl := litsS_ok hA hl
   subst hl
   split at hh
   ·rename_i v hv
    refine (Out.of_ret (x := some v) hS ⟨v,_,rfl,.a v,hh⟩).mono ?_
    rintro r H' ⟨h1,rfl⟩
    cases h1
    exact ⟨0,by simp only [hv]⟩
   ·exact qa1 hh
  ·exact qa1 hh
theorem effX_ok {S : AStat} (hC : CodecOk C) {noExt : FuncId → Bool} (hE : ExtNo S noExt) {call : CallX C} (hcall : CallOkX S call) {lo wlo : Nat} {ρ : List AVal} {ev : Operand → SV C.T} (hev : ∀ x,Er E (ev x) (evalA S ρ x)) {h : SH C} {H : Heap} (hS : SimH E lo wlo h H) {op : Op} {K : SV C.T → SH C → Tree}
 (hh : (effX S noExt call wlo ev h op K).holds) : Out E lo wlo h H (fun v H' => ∃ n,effA S (callA S (execA S n)) lo ρ H op = some (v,H')) K := by
 unfold effX at hh
 split at hh
 ·rename_i t x v
  refine (storeX_ok hC hS (hev x) (hev v) hh).mono ?_
  rintro r H' ⟨rfl,h1⟩
  exact ⟨0,by simp only [effA,h1,Option.map_some]⟩
 ·rename_i t m x v
  refine (mapUpdX_ok hS (hev m) (hev x) (hev v) hh).mono ?_
  rintro r H' ⟨rfl,h1⟩
  exact ⟨0,by simp only [effA,h1,Option.map_some]⟩
 ·rename_i x isString
  exact (nextX_ok hS (hev x) hh).mono fun r H' h1 => ⟨0,by simp only [effA]; exact h1⟩
 ·rename_i c
  obtain ⟨callee,args,ts⟩ := c
  simp only at hh
  have hA := Ers.map hev args.toList
  split at hh
  ·split at hh
   ·rename_i s x t u e1 e2
    rw [e1] at hA
    obtain ⟨a,as,e3,h1,hA⟩ := hA.inv_cons
    obtain ⟨b,bs,e4,h2,hA⟩ := hA.inv_cons
    obtain rfl := hA.inv_nil
    subst e4
    refine (appendX_ok hC hS h1 h2 hh).mono ?_
    intro r H' h3
    exact ⟨0,by simp only [effA,e3,e2,h3]⟩
   ·exact qa1 hh
  ·rename_i f
   have hf := hev f
   split at hh
   ·rename_i g first captured e
    rw [e] at hf
    generalize hv : evalA S ρ f = v at hf
    cases hf
    refine (callG_ok hE hcall hS (((Ers.mapA first).append hA).append (Ers.mapA captured)) hh).mono ?_
    rintro r H' ⟨n,h3⟩
    exact ⟨n,by simp only [effA,hv]; exact h3⟩
   ·rename_i g first captured e
    rw [e] at hf
    generalize hv : evalA S ρ f = v at hf
    cases hf with
    | fn q1 q2 q3 q4 =>
     have hF : Ers E first _ := ⟨q1,q2⟩
     have hG : Ers E captured _ := ⟨q3,q4⟩
     refine (callG_ok hE hcall hS ((hF.append hA).append hG) hh).mono ?_
     rintro r H' ⟨n,h3⟩
     exact ⟨n,by simp only [effA,hv]; exact h3⟩
   ·exact qa1 hh
  ·rename_i r name
   have hr := hev r
   split at hh
   ·rename_i t v e
    obtain ⟨w,hw,hi⟩ := ifaceS_ok hr e
    split at hh
    ·rename_i g q hm hn
     refine (hcall E lo wlo g _ h H K _ hh hS (hA.cons hi)).mono ?_
     rintro r' H' ⟨n,h3⟩
     exact ⟨n,by simp only [effA,hw,hm,nkS_ok hi hn,h3]⟩
    ·rename_i hno
     split at hh
     ·rename_i v0 as hl
      cases hi
      split at hh
      ·rename_i g v1 hm
       split at hh
       ·rename_i x hx
        have hl := litsS_ok hA hl
        refine (Out.of_ret (x := some x) hS ⟨x,_,rfl,.a x,hh⟩).mono ?_
        rintro r' H' ⟨h1,rfl⟩
        cases h1
        refine ⟨0, ?_⟩
        simp only [effA,hw]
        split
        ·rename_i g' q' h1 h2
         exact (hno _ _ h1 h2).elim
        ·simp only [hm,hl,hx,Option.map_some]
       ·exact qa1 hh
      ·exact qa1 hh
     ·exact qa1 hh
   ·exact qa1 hh
  ·exact qa1 hh
 ·exact qa1 hh
theorem quiet_new {S : AStat} {ρ : List AVal} {H : Heap} {op : Op} (h : isNewB op = true) : quietA S ρ H op = none := by
 cases op <;> first | rfl | (simp [isNewB] at h; done)
theorem quiet_eff {S : AStat} {ρ : List AVal} {H : Heap} {op : Op} (h : isEffB op = true) : quietA S ρ H op = none ∧ newA S ρ op = none := by
 cases op <;> first
  | exact ⟨rfl,rfl⟩
  | (simp [isEffB] at h; done)
  | skip
 rename_i c
 obtain ⟨callee,args,ts⟩ := c
 cases callee <;> first
  | exact ⟨rfl,rfl⟩
  | skip
 rename_i b
 cases b <;> first
  | exact ⟨rfl,rfl⟩
  | (simp [isEffB] at h; done)
theorem bytesX_ok (hC : CodecOk C) {P : Program} {S : AStat} (hP : P = S.P) {ρ : List AVal} {ev : Operand → SV C.T} (hev : ∀ x,Er E (ev x) (evalA S ρ x)) {op : Op} {K : (Nat → Obj C.T) → (Nat → SV C.T) → Tree} (h : (bytesX P ev op K).holds) (call : CallF) (lo : Nat) (H : Heap) :
 quietA S ρ H op = none ∧ newA S ρ op = none ∧ ∃ (blk : ABlk) (mkA : Nat → AVal) (o : Nat → Obj C.T) (mk : Nat → SV C.T),effA S call lo ρ H op = some (mkA H.length,H ++ [some blk]) ∧ (K o mk).holds ∧ ∀ (E' : Env) (H' : Heap) (id b : Nat),E.le E' → E'.β id = some b → E'.γ id = some (mkA b) → E'.ω b = some id → H'[b]? = some (some blk) → ObjOk E' H' id (o id) ∧ Er E' (mk id) (mkA b) := by
 subst hP
 unfold bytesX at h
 split at h
 ·rename_i s d x
  split at h
  ·rename_i e t hs hd ht
   split at h
   ·rename_i n he hn
    split at h
    ·rename_i hsz
     obtain ⟨hdec,hk⟩ := h
     have ex := strOf_ok (hev x) ht
     refine ⟨?_,rfl,.cells (t.map fun b => .int .u8 b.toNat),fun id => .sl 1 id 0 t.length t.length false,_,_, ?_,hk, ?_⟩
     ·simp only [quietA,convHA,convA,strOfA,hs,hd]
     ·simp only [effA,bytesA,hs,hd,he,ex]
     ·intro E' H' id b hle hb hg hw hH
      refine ⟨.inr ⟨b,0,t.length,false,_, ?_,hb,hw,hH, ?_, ?_,.inr ?_,fun _ => .inr ?_, ?_⟩,.R hg rfl⟩
      ·rw [hg,List.length_map,hsz]
      ·simp
      ·simp [hsz]
      ·simp [hsz]
      ·simp
      ·intro i y j xx a g1 g2 g3
       have hj : j < C.sz n := by have := lt_of_some g2; rw [hC.len] at this; exact this
       have hj0 : j = 0 := by omega
       subst hj0
       rw [List.getElem?_map] at g1
       cases hti : t[i]? with
       | none => rw [hti] at g1; cases g1
       | some c =>
        rw [hti] at g1
        simp only [Option.map_some,qa] at g1
        subst g1
        obtain ⟨y,hy⟩ := Option.isSome_iff_exists.1 (hdec c)
        have ey : byteOf C n c = y := by unfold byteOf; rw [hy]; rfl
        rw [ey] at g2
        rw [hsz,Nat.zero_add,Nat.mul_one,Nat.add_zero,List.getElem?_map,hti] at g3
        simp only [Option.map_some,qa] at g3
        subst g3
        exact (hC.dec n _ y hy E' [.int .u8 c.toNat] (.cons (.i _ _) .nil)).2 0 xx _ g2 rfl
    ·exact qa1 h
   ·exact qa1 h
  ·exact qa1 h
 ·exact qa1 h
theorem opX_ok {F : Cf C} (hC : CodecOk C) (hE : ExtNo F.S F.noExt) {call : CallX C} (hcall : CallOkX F.S call) {lo wlo : Nat} {ρ : List AVal} {r : SR C} (hev : ∀ x,Er E (sEval F.S r.get x) (evalA F.S ρ x)) {h : SH C} {H : Heap} (hS : SimH E lo wlo h H) {o : Oper} {K : SV C.T → SH C → Tree}
 (hh : (opX F call wlo r h o K).holds) : Out E lo wlo h H (fun v H' => ∃ n,opA F.S (callA F.S (execA F.S n)) lo ρ H o = some (v,H')) K := by
 unfold opX at hh
 cases hn : isNewB o.op with
 | true =>
  rw [hn] at hh
  simp only [cond_true] at hh
  obtain ⟨blk,mkA,ob,mk,h1,h2,h3⟩ := newX_ok hC hev hh
  have hp := hS.pushEnd (ob h.length) (mkA H.length) blk (fun hle => (h3 _ _ h.length H.length hle.le (by simp [Env.put]) (by simp [Env.put]) (by simp [Env.put]) get_push).1)
  refine ⟨mkA H.length,_,mk h.length,_,_,⟨0, ?_⟩,hp.1,by simp,hp.2,by simp,(h3 _ _ h.length H.length hp.1.le (by simp [Env.put]) (by simp [Env.put]) (by simp [Env.put]) get_push).2,h2⟩
  simp only [opA,quiet_new hn,h1]
 | false =>
  rw [hn] at hh
  simp only [cond_false] at hh
  cases he : isEffB o.op with
  | true =>
   rw [he] at hh
   refine (effX_ok hC hE hcall hev hS hh).mono ?_
   rintro v H' ⟨n,h1⟩
   obtain ⟨h2,h3⟩ := quiet_eff (S := F.S) (ρ := ρ) (H := H) he
   exact ⟨n,by simp only [opA,h2,h3,h1]⟩
  | false =>
   rw [he] at hh
   simp only [cond_false] at hh
   cases hb : isBytesB F.S.P o.op with
   | true =>
    rw [hb] at hh
    simp only [cond_true] at hh
    obtain ⟨q1,q2,blk,mkA,ob,mk,h1,h2,h3⟩ := bytesX_ok hC rfl hev hh (callA F.S (execA F.S 0)) lo H
    have hp := hS.pushEnd (ob h.length) (mkA H.length) blk (fun hle => (h3 _ _ h.length H.length hle.le (by simp [Env.put]) (by simp [Env.put]) (by simp [Env.put]) get_push).1)
    refine ⟨mkA H.length,_,mk h.length,_,_,⟨0, ?_⟩,hp.1,by simp,hp.2,by simp,(h3 _ _ h.length H.length hp.1.le (by simp [Env.put]) (by simp [Env.put]) (by simp [Env.put]) get_push).2,h2⟩
    simp only [opA,q1,q2,h1]
   | false =>
    rw [hb] at hh
    refine (quietX_ok hC hev hS hh).mono ?_
    rintro v H' ⟨h1,rfl⟩
    exact ⟨0,by simp only [opA,h1]⟩
structure SimR (E : Env) (r : SR C) (ρ : List AVal) : Prop where
 full : Full 9 r.t
 small : r.n ≤ 512
 len : ρ.length = r.n
 val : ∀ j,Er E (r.get j) (ρ.getD j undefA)
theorem SimR.mono {E E' : Env} (k : E.le E') {r : SR C} {ρ : List AVal} (h : SimR E r ρ) : SimR E' r ρ := ⟨h.full,h.small,h.len,fun j => (h.val j).mono k⟩
theorem SR.get_set {r : SR C} (hf : Full 9 r.t) (hs : r.n ≤ 512) {d : Nat} {v : SV C.T} (hd : d < r.n) (j : Nat) : (r.set d v).get j = if j = d then v else r.get j := by
 have hd' : Nat.blt d r.n = true := by rw [Nat.blt_eq]; exact hd
 unfold SR.set
 rw [hd']
 simp only [cond_true,SR.get]
 by_cases hj : j < r.n
 ·have hj' : Nat.blt j r.n = true := by rw [Nat.blt_eq]; exact hj
  simp only [hj',cond_true]
  rw [Am.get_set v 9 _ _ _ hf (by omega) (by omega)]
  by_cases e : d = j
  ·subst e; simp
  ·rw [if_neg e,if_neg (fun x => e x.symm)]
 ·have hj' : Nat.blt j r.n = false := by rw [Bool.eq_false_iff]; intro x; rw [Nat.blt_eq] at x; exact hj x
  simp only [hj',cond_false]
  rw [if_neg (by omega)]
theorem SR.set_n (r : SR C) (d : Nat) (v : SV C.T) : (r.set d v).n = r.n := by
 unfold SR.set
 cases Nat.blt d r.n <;> rfl
theorem SR.set_full {r : SR C} (hf : Full 9 r.t) (d : Nat) (v : SV C.T) : Full 9 (r.set d v).t := by
 unfold SR.set
 cases Nat.blt d r.n
 ·exact hf
 ·exact full_set v 9 _ _ hf
theorem SimR.set {r : SR C} {ρ : List AVal} (h : SimR E r ρ) {d : Nat} {v : SV C.T} {a : AVal} (hv : Er E v a) : SimR E (r.set d v) (ρ.set d a) := by
 refine ⟨SR.set_full h.full d v,by rw [SR.set_n]; exact h.small,by rw [qz,SR.set_n]; exact h.len,fun j => ?_⟩
 by_cases hd : d < r.n
 ·rw [SR.get_set h.full h.small hd,qi,qh]
  by_cases e : j = d
  ·subst e
   rw [if_pos rfl,if_pos rfl,if_pos (by rw [h.len]; exact hd)]
   exact hv
  ·rw [if_neg e,if_neg (fun x => e x.symm),← qi]
   exact h.val j
 ·have hd' : Nat.blt d r.n = false := by rw [Bool.eq_false_iff]; intro x; rw [Nat.blt_eq] at x; exact hd x
  unfold SR.set
  rw [hd',List.set_eq_of_length_le (by rw [h.len]; omega)]
  exact h.val j
theorem SimR.self {r : SR C} {ρ : List AVal} (h : SimR E r ρ) {d : Nat} {v : SV C.T} (hv : Er E v (ρ.getD d undefA)) : SimR E (r.set d v) ρ := by
 have := h.set (d := d) hv
 have e : ρ.set d (ρ.getD d undefA) = ρ := by
  apply List.ext_getElem?
  intro j
  rw [qh]
  split
  ·rename_i hj
   subst hj
   rw [qi]
   split
   ·rename_i hl; rw [qt hl]; rfl
   ·rename_i hl; rw [qr (by omega)]
  ·rfl
 rw [e] at this
 exact this
theorem SimR.ev {S : AStat} {r : SR C} {ρ : List AVal} (h : SimR E r ρ) : ∀ x,Er E (sEval S r.get x) (evalA S ρ x) := by
 intro x
 cases x with
 | tmp t => exact h.val t
 | const v => exact .a _
 | global g =>
  simp only [sEval,evalA]
  cases S.glob g with
  | none => exact .any
  | some cs => exact .a _
 | func f => exact .a _
theorem SimR.put {r : SR C} {ρ : List AVal} (h : SimR E r ρ) {dst : Option Tmp} {v : SV C.T} {a : AVal} (hv : Er E v a) : SimR E (sPut r dst v) (putA ρ dst a) := by
 cases dst with
 | none => exact h
 | some d => exact h.set hv
theorem guardX_ok {ops : List Oper} {r : SR C} {ρ : List AVal} (h : SimR E r ρ) {o : Oper} {yes no : SR C → Tree} (hh : (guardX ops r o yes no).holds) :
 (guardA ops ρ o = some true ∧ ∃ r',SimR E r' ρ ∧ (yes r').holds) ∨ (guardA ops ρ o = some false ∧ ∃ r',SimR E r' ρ ∧ (no r').holds) := by
 unfold guardX at hh
 unfold guardA
 split at hh
 ·rename_i e
  rw [e]
  exact .inl ⟨rfl,r,h,hh⟩
 ·rename_i j want e
  rw [e]
  simp only
  split at hh
  ·rename_i e2
   rw [e2]
   exact .inr ⟨rfl,r,h,hh⟩
  ·rename_i d e2
   rw [e2]
   simp only
   cases hb : Nat.blt d r.n with
   | false =>
    rw [hb] at hh
    have hd : ¬ d < r.n := by intro x; rw [← Nat.blt_eq,hb] at x; cases x
    rw [qr (by rw [h.len]; exact Nat.le_of_not_lt hd)]
    exact .inr ⟨rfl,r,h,hh⟩
   | true =>
    rw [hb] at hh
    simp only [cond_true] at hh
    have hd : d < r.n := by rw [← Nat.blt_eq]; exact hb
    have hl : d < ρ.length := by rw [h.len]; exact hd
    have hv := h.val d
    have hg : ρ[d]? = some (ρ.getD d undefA) := by rw [qi,qt hl]; rfl
    rw [hg]
    generalize ha : ρ.getD d undefA = a at hv
    split at hh
    ·rename_i b e3
     rw [e3] at hv
     cases hv
     simp only
     cases hw : (b == want) with
     | true => rw [hw] at hh; exact .inl ⟨rfl,r,h,hh⟩
     | false => rw [hw] at hh; exact .inr ⟨rfl,r,h,hh⟩
    ·rename_i x e3
     rw [e3] at hv
     cases hv
     exact .inr ⟨rfl,r,h,hh⟩
    ·rename_i t e3
     rw [e3] at hv
     cases hv
     have hs : ∀ t',t' = t → SimR E (r.set d (.a (.bool t'))) ρ := fun t' e => h.self (by rw [ha,e]; exact .a _)
     cases want with
     | true =>
      simp only [cond_true] at hh
      rcases fork_cases hh with ⟨rfl,h1⟩ | ⟨rfl,h1⟩
      ·exact .inl ⟨rfl,_,hs _ rfl,h1⟩
      ·exact .inr ⟨rfl,_,hs _ rfl,h1⟩
     | false =>
      simp only [cond_false] at hh
      rcases fork_cases hh with ⟨rfl,h1⟩ | ⟨rfl,h1⟩
      ·exact .inr ⟨rfl,_,hs _ rfl,h1⟩
      ·exact .inl ⟨rfl,_,hs _ rfl,h1⟩
    ·exact qa1 hh
def Go2 (E : Env) (lo wlo : Nat) (h : SH C) (H : Heap) (r : List AVal → Heap → Prop) (K : SR C → SH C → Tree) : Prop :=
 ∃ ρ' H' r' h' E',r ρ' H' ∧ LeN h.length H.length E E' ∧ h.length ≤ h'.length ∧ SimR E' r' ρ' ∧ SimH E' lo wlo h' H' ∧ H.length ≤ H'.length ∧ (K r' h').holds
theorem opsX_ok {F : Cf C} (hC : CodecOk C) (hX : ExtNo F.S F.noExt) {call : CallX C} (hcall : CallOkX F.S call) {lo wlo : Nat} {ops : List Oper} {K : SR C → SH C → Tree} : ∀ {l : List Oper} {E : Env} {r : SR C} {ρ : List AVal} {h : SH C} {H : Heap},SimR E r ρ → SimH E lo wlo h H →
 (opsX F call wlo ops l r h K).holds → Go2 E lo wlo h H (fun ρ' H' => ∃ n,opsA F.S (callA F.S (execA F.S n)) lo ops l ρ H = some (ρ',H')) K
 | [],E,r,ρ,h,H,hR,hS,hh => ⟨ρ,H,r,h,E,⟨0,rfl⟩,LeN.refl _ _,qf _,hR,hS,qf _,hh⟩
 | o :: l,E,r,ρ,h,H,hR,hS,hh => by
  unfold opsX at hh
  rcases guardX_ok hR hh with ⟨hg,r1,hR1,h1⟩ | ⟨hg,r1,hR1,h1⟩
  ·obtain ⟨v,H1,sv,sh1,E1,⟨n,h2⟩,h3,h4,h5,h6,h7,h8⟩ := opX_ok hC hX hcall hR1.ev hS h1
   obtain ⟨ρ',H',r',h',E',⟨m,k1⟩,k2,k3,k4,k5,k6,k7⟩ := opsX_ok hC hX hcall ((hR1.mono h3.le).put h7) h5 h8
   refine ⟨ρ',H',r',h',E',⟨max n m, ?_⟩,h3.trans h4 h6 k2,Nat.le_trans h4 k3,k4,k5,Nat.le_trans h6 k6,k7⟩
   unfold opsA
   simp only [hg]
   rw [opA_mono (callA_mono (execA_mono (Nat.le_max_left n m))) h2]
   exact opsA_mono (callA_mono (execA_mono (Nat.le_max_right n m))) k1
  ·obtain ⟨ρ',H',r',h',E',⟨m,k1⟩,k2,k3,k4,k5,k6,k7⟩ := opsX_ok hC hX hcall (hR1.put (.a undefA)) hS h1
   refine ⟨ρ',H',r',h',E',⟨m, ?_⟩,k2,k3,k4,k5,k6,k7⟩
   unfold opsA
   simp only [hg]
   exact k1
end Go.Sy

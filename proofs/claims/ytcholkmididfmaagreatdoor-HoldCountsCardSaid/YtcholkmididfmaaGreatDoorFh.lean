/- HoldCounts: what is owed ahead of New is paid. -/
import Derived.Test.YtcholkmididfmaaGreatDoorFb
namespace Go.Proofs.YtcholkmididfmaaGreatDoor
open Go.RowKit Go.Am Go.Sy
set_option linter.unusedVariables false
set_option linter.unusedSimpArgs false
theorem few6_len {rows : List (List Int)} (h : fewB rows 6 = true) : ∀ i : Nat,i < 3 → i < rows.length → (at5 rows i).length ≤ 6 := by
 have step : ∀ (r i : Nat),fewGo rows 6 (r + 1) i = true → i < rows.length → (at5 rows i).length ≤ 6 ∧ fewGo rows 6 r (i + 1) = true := by
  intro r i h hi
  rw [few_step (show (i : Int) < rows.length by omega)] at h
  split at h
  ·cases h
  ·rename_i g
   exact ⟨by omega,h⟩
 intro i h3 hi
 have s0 := fun hi => step 4 0 h hi
 have : i = 0 ∨ i = 1 ∨ i = 2 := by omega
 rcases this with rfl | rfl | rfl
 ·exact (s0 hi).1
 ·exact (step 3 1 (s0 (by omega)).2 hi).1
 ·exact (step 2 2 (step 3 1 (s0 (by omega)).2 (by omega)).2 hi).1
theorem psL_eq {f g : Nat → List Instr} {P : Prop} (h : P) : ∀ n,(∀ k,k < n → f k = g k) → psL f g n P
 | 0,_ => h
 | n + 1,hk => psL_eq (n := n) ⟨hk n (by omega),h⟩ fun k hk' => hk k (by omega)
theorem dsR_len (rows : List (List Int)) (t : Nat) : (dsR rows t).length = (at5 rows t).length := by rw [dsR,List.length_map]
theorem cntP_snoc (l : List Int) (d : Int) : cntP (l ++ [d]) = cntP l ++ secC d := by
 rw [cntP,cntP,List.flatMap_append,List.flatMap_cons,List.flatMap_nil,List.append_nil]
 rfl
theorem secW_is {d : Int} (h : 0 ≤ d ∧ d < 9) : secW d = secC d := by
 have h1 : 0 ≤ d.tdiv 3 := Int.tdiv_nonneg h.1 (by decide)
 have h2 : d.tdiv 3 ≤ d := by
  rw [Int.tdiv_eq_ediv_of_nonneg h.1]
  omega
 rw [secW,secC,wrap64 (by omega) (by omega)]
theorem cnt_le (l : List Int) (d : Int) : l.count d ≤ l.length := List.count_le_length
theorem cntB_le {rows : List (List Int)} {i : Nat} (h : ∀ t,t < i → (at5 rows t).length ≤ 6) (d : Int) : cntB rows i d ≤ i * 6 :=
 sum_le fun t ht => by have := h t ht; have := cnt_le (dsR rows t) d; rw [dsR_len] at this; omega
section
variable (s : HS)
theorem pe_ok (rows : List (List Int)) (l : List Int) : pe rows l := by
 refine ⟨trivial,fun _ => ⟨rfl,trivial⟩,fun h1 => ⟨fun _ => ⟨rfl,trivial⟩,fun h2 => ⟨fun _ => ⟨rfl,trivial⟩,fun h3 => ⟨⟨rows,l,w0F,fun _ => [],0,[]⟩,baseE_ok 0 0 _ ⟨⟨⟨?_,Nat.zero_le _, ?_, ?_,fun t ht => by omega⟩,fun d _ => rfl⟩,trivial⟩⟩⟩⟩⟩
 ·have := qc h2; show rows.length ≤ 3; omega
 ·have h2 := qc h2
  have h1 : fewB rows 6 = true := by simpa using h1
  exact fun t ht => few6_len h1 t (by have : t < rows.length := ht; omega) ht
 ·have := qc h3; show l.length ≤ 150; omega
theorem p7_ok (i : Nat) (hi : i ≤ 3) (hI : (h7 i).I s) : p7 s i := by
 obtain ⟨hB,hw⟩ := hI
 refine ⟨fun h => ?_,fun h => ⟨fun e => ?_,fun e => ?_⟩⟩
 ·have h := qb h
  have hi2 : i < 3 := by have := hB.few; omega
  have hb : Nat.beq i 3 = false := by rw [Bool.eq_false_iff,Ne,Nat.beq_eq]; omega
  rw [hb]
  refine ⟨{ s with j := 0,p := [⟨1,1,0,0,1⟩] },baseE_ok i i s ⟨rfl,rfl,⟨⟨hB.few,hB.le,hB.six,hB.l,hB.ps⟩,by show i < s.rows.length; omega,Nat.zero_le _,by rw [List.take_zero]; rfl,fun d hd => ?_⟩, ?_,trivial⟩⟩
  ·rw [List.take_zero]
   exact hw d hd
  ·show 9990 - 1000 * i - 0 < 10000 - 1000 * i
   omega
 ·have h := qc h
  have e := eq_of_beq e
  have h0 : i = 0 := by have := hB.le; omega
  subst h0
  refine ⟨{ s with ps := fun _ => [] },rfl,rfl,rfl,rfl,rfl,rfl,rfl,rfl,rfl,rfl,rfl,eqL_ok ⟨rfl,rfl,⟨by show s.rows.length = 0; omega,by decide,fun t ht => by omega,hB.l,fun t ht => by omega,fun _ => rfl,hw⟩,(show (6000 : Nat) < 10000 by decide),trivial⟩ _⟩
 ·have h := qc h
  have e := ne_of_beq_false e
  have hl := hB.le
  have hb : Nat.beq i 0 = false := by rw [Bool.eq_false_iff,Ne,Nat.beq_eq]; omega
  rw [hb]
  refine ⟨s,baseE_ok i i s ⟨⟨by omega,hi,fun t ht => hB.six t (by omega),hB.l,hB.ps,fun h0 => by omega,hw⟩, ?_,trivial⟩⟩
  show 6000 < 10000 - 1000 * i
  omega
theorem p11_ok (i : Nat) (hi : i ≤ 2) (hI : (h11 i).I s) : p11 s i := by
 obtain ⟨hB,hir,hj,hp,hw⟩ := hI
 have h6 := hB.six i hir
 have hjl := hj
 rw [dsR_len] at hjl
 have bi : (0 : Int) ≤ (i : Int) ∧ (i : Int) < (s.rows.length : Int) := ⟨by omega,by omega⟩
 refine ⟨bi,fun h => ⟨bi, ?_⟩,fun h => ?_⟩
 ·have h := qb h
  have hj' : s.j < (at5 s.rows i).length := by omega
  have hd := pk_is (at0 (at5 s.rows i) s.j) 9 (by decide) (by decide)
  generalize hde : pk (at0 (at5 s.rows i) s.j) 9 = d at hd
  have hdj : (dsR s.rows i).take (s.j + 1) = (dsR s.rows i).take s.j ++ [d] := by
   have hl : s.j < (dsR s.rows i).length := by rw [dsR_len]; exact hj'
   rw [List.take_succ_eq_append_getElem hl]
   congr 2
   rw [← hde,at0_get hj']
   simp only [dsR,List.getElem_map]
  refine ⟨⟨by omega,by omega⟩,ixP_ok hd (ixP_ok hd ⟨?_,⟨s.rows,s.l,updW s.w d.toNat d.toNat,s.ps,s.j + 1,s.p ++ secW d⟩, ?_⟩)⟩
  ·have : s.p.length = 1 + 5 * s.j := by rw [hp,cntP_len,List.length_take]; omega
   show (s.p.length + 5) * 40 ≤ _
   omega
  ·refine baseE_ok i i ⟨s.rows,s.l,updW s.w d.toNat d.toNat,s.ps,0,[]⟩ ⟨rfl, ?_,⟨⟨hB.few,hB.le,hB.six,hB.l,hB.ps⟩,hir, ?_, ?_,fun k hk => ?_⟩, ?_,trivial⟩
   ·rw [wrap64 (by omega) (by omega)]; rfl
   ·show s.j + 1 ≤ (dsR s.rows i).length; rw [dsR_len]; omega
   ·show s.p ++ secW d = cntP ((dsR s.rows i).take (s.j + 1))
    rw [hdj,cntP_snoc,hp,secW_is hd]
   ·show updW s.w d.toNat d.toNat k = _
    have e9 : d.toNat < 9 := by omega
    have wd := hw d.toNat e9
    have wk := hw k hk
    have c1 := cntB_le (i := i) (fun t ht => hB.six t (by omega)) (d.toNat : Int)
    have c2 := cnt_le ((dsR s.rows i).take s.j) (d.toNat : Int)
    rw [List.length_take] at c2
    rw [hdj,List.count_append,List.count_singleton]
    unfold updW
    cases hb : Nat.beq k d.toNat with
    | true =>
     have e := Nat.eq_of_beq_eq_true hb
     subst e
     have : (d == ((d.toNat : Nat) : Int)) = true := by rw [beq_iff_eq]; omega
     rw [this]
     simp only [cond_true,if_true]
     rw [wd,wrap64 (by omega) (by omega)]
     omega
    | false =>
     have e : k ≠ d.toNat := fun e => by rw [e,Nat.beq_refl] at hb; cases hb
     have : (d == ((k : Nat) : Int)) = false := by rw [beq_eq_false_iff_ne]; omega
     rw [this]
     simp only [cond_false,Bool.false_eq_true,if_false]
     rw [wk]
     rfl
   ·show 9990 - 1000 * i - (s.j + 1) < 9990 - 1000 * i - s.j
    omega
 ·have h := qc h
  have ht : (dsR s.rows i).take s.j = dsR s.rows i := List.take_of_length_le (by rw [dsR_len]; omega)
  refine ⟨s,baseE_ok i i s ⟨rfl,⟨hB,hir,by rw [hp,ht],fun d hd => ?_⟩, ?_,trivial⟩⟩
  ·rw [hw d hd,ht]; rfl
  ·show 9900 - 1000 * i < 9990 - 1000 * i - s.j
   omega
theorem p16_ok (i : Nat) (hi : i ≤ 2) (hI : (h16 i).I s) : p16 s i := by
 obtain ⟨hB,hir,hp,hw⟩ := hI
 refine ⟨{ s with ps := fun t => if t = i then s.p else s.ps t },rfl,rfl,rfl,rfl,rfl,rfl,rfl,rfl,rfl,rfl,rfl,eqL_ok (psL_eq ⟨(if_pos rfl).symm,rfl,⟨⟨hB.few,by show i + 1 ≤ s.rows.length; omega,hB.six,hB.l,fun t ht => ?_⟩,hw⟩, ?_,trivial⟩ i fun k hk => (if_neg (by omega)).symm) _⟩
 ·show (if t = i then s.p else s.ps t) = cntP (dsR s.rows t)
  by_cases e : t = i
  ·rw [if_pos e,e,hp]
  ·rw [if_neg e]; exact hB.ps t (by omega)
 ·show 10000 - 1000 * (i + 1) < 9900 - 1000 * i
  omega
end
end Go.Proofs.YtcholkmididfmaaGreatDoor
/- HoldCounts: what is owed at New is paid. -/
namespace Go.Proofs.YtcholkmididfmaaGreatDoor
open Go.RowKit Go.Am Go.Sy
set_option linter.unusedVariables false
set_option linter.unusedSimpArgs false
theorem nine {d : Int} (h : 0 ≤ d ∧ d < 9) : d = 0 ∨ d = 1 ∨ d = 2 ∨ d = 3 ∨ d = 4 ∨ d = 5 ∨ d = 6 ∨ d = 7 ∨ d = 8 := by omega
section
variable {ps : Nat → List Instr} {n : Nat}
theorem sec_good {d : Int} (h : 0 ≤ d ∧ d < 9) : GoodP (cfgN ps n) (secC d) := by
 rcases nine h with rfl | rfl | rfl | rfl | rfl | rfl | rfl | rfl | rfl <;> exact ⟨by kernel_rfl,fun σ => by kernel_rfl,fun tp lp => by kernel_rfl⟩
theorem nil_goodP : GoodP (cfgN ps n) [] := ⟨by kernel_rfl,fun σ => by kernel_rfl,fun tp lp => by kernel_rfl⟩
theorem set_good : GoodP (cfgN ps n) [⟨1,1,0,0,1⟩] := ⟨by kernel_rfl,fun σ => by kernel_rfl,fun tp lp => by kernel_rfl⟩
theorem flat_good : ∀ {l : List Int},(∀ d ∈ l,0 ≤ d ∧ d < 9) → GoodP (cfgN ps n) (l.flatMap secC)
 | [],_ => nil_goodP
 | d :: l,h => by
  rw [List.flatMap_cons]
  exact (sec_good (h d List.mem_cons_self)).append (flat_good fun e he => h e (List.mem_cons_of_mem _ he))
theorem cntP_good {l : List Int} (h : ∀ d ∈ l,0 ≤ d ∧ d < 9) : GoodP (cfgN ps n) (cntP l) := by
 have : cntP l = [⟨1,1,0,0,1⟩] ++ l.flatMap secC := rfl
 rw [this]
 exact set_good.append (flat_good h)
theorem plL_len (ps : Nat → List Instr) : ∀ n,(plL ps n).length = n
 | 0 => rfl
 | n + 1 => by rw [plL,qo,plL_len ps n]; rfl
theorem mtL_len (ps : Nat → List Instr) : ∀ n,(mtL ps n).length = n
 | 0 => rfl
 | n + 1 => by rw [mtL,qo,mtL_len ps n]; rfl
theorem plL_get (ps : Nat → List Instr) : ∀ (n k : Nat),k < n → (plL ps n)[k]? = some (ps k)
 | n + 1,k,h => by
  rw [plL]
  rcases qm k n with hk | hk
  ·rw [qg (by rw [plL_len]; exact hk),plL_get ps n k hk]
  ·have : k = n := by omega
   subst this
   rw [qk (by rw [plL_len]; exact hk),plL_len,Nat.sub_self]
   rfl
theorem plL_at {k : Nat} (h : k < n) : at3 (plL ps n) (k : Int) = ps k := by
 have hl : k < (plL ps n).length := by rw [plL_len]; exact h
 rw [at3_get hl]
 have := plL_get ps n k h
 rw [qt hl] at this
 exact Option.some.inj this
end
theorem dsR_in (rows : List (List Int)) (t : Nat) : ∀ d ∈ dsR rows t,0 ≤ d ∧ d < 9 := by
 intro d hd
 obtain ⟨x,_,rfl⟩ := List.mem_map.1 hd
 exact pk_is x 9 (by decide) (by decide)
theorem reg_is {d : Int} (h0 : 0 ≤ d) (h9 : d < 9) : regF locksL d = d.tdiv 3 := by
 rcases nine ⟨h0,h9⟩ with rfl | rfl | rfl | rfl | rfl | rfl | rfl | rfl | rfl <;> rfl
theorem nOf_succ {i : Nat} (h : i ≠ 0) : nOf i = i := by
 unfold nOf
 have : Nat.beq i 0 = false := by rw [Bool.eq_false_iff,Ne,Nat.beq_eq]; exact h
 rw [this]
 rfl
theorem nOf_le {i : Nat} (h : i ≤ 3) : nOf i ≤ 3 := by
 by_cases e : i = 0
 ·subst e; decide
 ·rw [nOf_succ e]; exact h
theorem rows_nil {rows : List (List Int)} (h : rows.length = 0) : dsR rows 0 = [] := by
 cases rows with
 | nil => rfl
 | cons _ _ => cases h
theorem sumC_zero' {f : Nat → Nat} : ∀ {n : Nat},(∀ t,t < n → f t = 0) → sumC f n = 0
 | 0,_ => rfl
 | n + 1,h => by rw [sumC,sumC_zero' fun t ht => h t (by omega),h n (by omega)]
section
variable {s : HS} {i : Nat}
theorem ps_is (hI : (h19 i).I s) {t : Nat} (ht : t < nOf i) : s.ps t = cntP (dsR s.rows t) ∨ (s.ps t = [] ∧ dsR s.rows t = []) := by
 obtain ⟨hr,hi,h6,hl,hp,h0,hw⟩ := hI
 by_cases e : i = 0
 ·subst e
  have ht : t < 1 := ht
  have : t = 0 := by omega
  subst this
  exact .inr ⟨h0 rfl,rows_nil hr⟩
 ·rw [nOf_succ e] at ht
  exact .inl (hp t ht)
theorem ds_six (hI : (h19 i).I s) {t : Nat} (ht : t < nOf i) : (dsR s.rows t).length ≤ 6 := by
 obtain ⟨hr,hi,h6,hl,hp,h0,hw⟩ := hI
 by_cases e : i = 0
 ·subst e
  have ht : t < 1 := ht
  have : t = 0 := by omega
  subst this
  rw [rows_nil hr]
  exact Nat.zero_le _
 ·rw [nOf_succ e] at ht
  rw [dsR_len]
  exact h6 t ht
theorem ps_len (hI : (h19 i).I s) {t : Nat} (ht : t < nOf i) : (s.ps t).length ≤ 31 := by
 have := ds_six hI ht
 rcases ps_is hI ht with h | ⟨h,_⟩
 ·rw [h,cntP_len]; omega
 ·rw [h]; exact Nat.zero_le _
theorem preN_ok (hI : (h19 i).I s) {P : Prop} (hP : P) : ∀ k,k ≤ nOf i → preN s (nOf i) k P
 | 0,_ => hP
 | k + 1,hk => by
  have hi := hI.2.1
  have hn := nOf_le hi
  refine preN_ok hI (P := prD.pre (cfgN s.ps (nOf i),(k : Int),()) ∧ P) ⟨⟨⟨(show initL.length ≤ 1000 by decide),(show locksL.length ≤ 1000 by decide),(show condL.length ≤ 1000 by decide),by show (plL s.ps (nOf i)).length ≤ 1000; rw [plL_len]; omega⟩,Int.natCast_nonneg k,by show (k : Int) < ((plL s.ps (nOf i)).length : Int); rw [plL_len]; omega, ?_⟩,hP⟩ k (by omega)
  show progP (cfgN s.ps (nOf i)) ((k : Int).toNat) (at3 (plL s.ps (nOf i)) ((k : Int).toNat : Int)) = (0,0,0)
  rw [Int.toNat_natCast,plL_at (show k < nOf i by omega)]
  have hl := ps_len hI (t := k) (by omega)
  refine progP_good ?_ (by omega)
  rcases ps_is hI (t := k) (by omega) with h | ⟨h,_⟩
  ·rw [h]; exact cntP_good (dsR_in _ _)
  ·rw [h]; exact nil_goodP
def stOf (s : HS) (t : Nat) : Int := if (s.ps t).length = 0 then 1 else 0
theorem new_ok (hI : (h19 i).I s) {st : Nat → Int} (hst : ∀ t,t < nOf i → st t = stOf s t) : toC (h23 i) 6000 ⟨s.rows,s.l,⟨cfgN s.ps (nOf i),mtL s.ps (nOf i)⟩,newM st,s.w,plL s.ps (nOf i),initL,0⟩ := by
 have hps := fun t ht => ps_is hI (t := t) ht
 have h6' := fun t ht => ds_six hI (t := t) ht
 obtain ⟨hr,hi,h6,hl,hp,h0,hw⟩ := hI
 refine ⟨⟨⟨hr,hi⟩,h6,hl,rfl,plL_len _ _,hw,⟨rfl,rfl,rfl,mtL_len _ _⟩,⟨nOf_le hi,plL_len _ _,fun d a b => reg_is a b,fun t ht => ?_,fun t ht => dsR_in _ _,h6'⟩,Nat.zero_le _,⟨fun t ht => ?_,rfl,rfl,fun d hd => ?_,fun c hc => rfl,fun t u ht hu hne h hh => ?_⟩⟩,show (1000 : Nat) - 0 < 6000 by decide,trivial⟩
 ·show at3 (plL s.ps (nOf i)) t = _ ∨ at3 (plL s.ps (nOf i)) t = [] ∧ _
  rw [plL_at ht]
  exact hps t ht
 ·refine ⟨Nat.zero_le _,rfl,rfl, ?_,rfl,rfl,rfl,rfl,fun h => absurd h (show ¬ 1 ≤ 0 by decide),fun h => absurd h (show ¬ 1 ≤ 0 by decide),fun h => absurd h (show ¬ 1 ≤ 0 by decide)⟩
  show st t = if 0 = (at3 (plL s.ps (nOf i)) t).length then 1 else 0
  rw [plL_at ht,hst t ht,stOf]
  by_cases e : (s.ps t).length = 0
  ·rw [if_pos e,if_pos e.symm]
  ·rw [if_neg e,if_neg fun h => e h.symm]
 ·show at0 initL d = at0 initL d + (sumC (fun t => cntC (dsR s.rows t) 0 d) (nOf i) : Nat)
  rw [sumC_zero' (f := fun t => cntC (dsR s.rows t) 0 d) fun t _ => rfl]
  omega
 ·have hh : h ∈ opnC (dsR s.rows t) 0 := hh
  rw [opnC_nil (.inl rfl)] at hh
  cases hh
theorem goN_ok (hI : (h19 i).I s) : ∀ (r : Nat) (st : Nat → Int),r ≤ nOf i → (∀ t,t < nOf i - r → st t = stOf s t) → goN s i (nOf i) r st
 | 0,st,_,hst => in23_ok i 0 rfl (new_ok hI fun t ht => hst t (by omega))
 | r + 1,st,hr,hst => by
  have hl := ps_len hI (t := nOf i - (r + 1)) (by omega)
  have step : ∀ v,v = stOf s (nOf i - (r + 1)) → goN s i (nOf i) r (updS st (nOf i - (r + 1)) v) := fun v hv => goN_ok hI r _ (by omega) fun t ht => by
   unfold updS
   cases hb : Nat.beq t (nOf i - (r + 1)) with
   | true => rw [Nat.eq_of_beq_eq_true hb]; exact hv
   | false =>
    have : t ≠ nOf i - (r + 1) := fun e => by rw [e,Nat.beq_refl] at hb; cases hb
    exact hst t (by omega)
  refine ⟨by omega,by omega,fun e => step 1 ?_,fun e => step 0 ?_⟩
  ·have e := eq_of_beq e
   rw [stOf,if_pos (by omega)]
  ·have e := ne_of_beq_false e
   rw [stOf,if_neg (by omega)]
theorem p19_ok (hI : (h19 i).I s) : p19 s i := preN_ok hI (goN_ok hI (nOf i) _ (qf _) fun t ht => by omega) _ (qf _)
end
end Go.Proofs.YtcholkmididfmaaGreatDoor
/- HoldCounts: what is owed at each pick, and at the end, is paid. -/
namespace Go.Proofs.YtcholkmididfmaaGreatDoor
open Go.RowKit Go.Am Go.Sy
set_option linter.unusedVariables false
set_option linter.unusedSimpArgs false
theorem init_small : ∀ d : Nat,d < 9 → 0 ≤ at0 initL d ∧ at0 initL d ≤ 1000 := by
 intro d hd
 match d,hd with
 | 0,_ => exact ⟨by decide,by decide⟩
 | 1,_ => exact ⟨by decide,by decide⟩
 | 2,_ => exact ⟨by decide,by decide⟩
 | 3,_ => exact ⟨by decide,by decide⟩
 | 4,_ => exact ⟨by decide,by decide⟩
 | 5,_ => exact ⟨by decide,by decide⟩
 | 6,_ => exact ⟨by decide,by decide⟩
 | 7,_ => exact ⟨by decide,by decide⟩
 | 8,_ => exact ⟨by decide,by decide⟩
theorem opnC_len (l : List Int) (a : Nat) : (opnC l a).length ≤ 1 := by
 unfold opnC
 by_cases h : a = 0 ∨ (a - 1) % 5 = 0
 ·rw [if_pos h]; exact Nat.zero_le _
 ·rw [if_neg h]; exact qf _
section
variable {K : MK} {n : Nat} {ds : Nat → List Int} {w0 : List Int} {a : Nat → Nat} {S : MT}
theorem canOk_of (hK : HOk K n ds) (hc : K.c.conds = condL) (hI : HInv K n ds w0 a S) : CanOk (viewM K n S) where
 len := by show (allL S.th n).length = K.c.progs.length; rw [allL_len,hK.pl]
 small := by show (allL S.th n).length ≤ 1000; rw [allL_len]; have := hK.n3; omega
 opn := fun y hy => by
  obtain ⟨t,ht,rfl⟩ := allL_mem.1 hy
  rw [(hI.th t ht).opn]
  have := opnC_len (ds t) (a t)
  omega
 run := fun t ht hs => by
  have ht : t < n := by have : t < (allL S.th n).length := ht; rw [allL_len] at this; exact this
  have hv : at12 (viewM K n S).all (t : Int) = S.th t := allL_at ht
  rw [hv] at hs ⊢
  have h := hI.th t ht
  have hne : a t ≠ lenC K t := fun e => by rw [h.status,if_pos e] at hs; cases hs
  have hlt : a t < lenC K t := by have := h.le; omega
  rw [h.awake,h.at_]
  refine ⟨?_,by omega, ?_⟩
  ·show (-1 : Int) < (K.c.conds.length : Int)
   omega
  ·show (a t : Int) < ((at3 K.c.progs t).length : Int)
   have : lenC K t = (at3 K.c.progs t).length := rfl
   omega
theorem pkI_of (hK : HOk K n ds) (hl : K.c.locks = locksL) (hc : K.c.conds = condL) (hm : K.m.length = n) (hI : HInv K n ds w0 a S) (t : Nat) : PkI n t ⟨K,S⟩ where
 can := canOk_of hK hc hI
 aw := fun ht => by show (S.th t).awake < 0; rw [(hI.th t ht).awake]; decide
 ml := by show n ≤ K.m.length; omega
 ds := fun ht hcan => by
  obtain ⟨_,hlt,_⟩ := (can_is hK hI t).1 hcan
  have h := hI.th t ht
  obtain ⟨hp,hlen⟩ := lenC_is hK ht hlt
  have hth : (setM S t (fuT (S.th t) (IntKind.i64.wrap ((S.th t).fuel - 1)))).th t = fuT (S.th t) (IntKind.i64.wrap ((S.th t).fuel - 1)) := setM_th _ _ _
  have hopn : (fuT (S.th t) (IntKind.i64.wrap ((S.th t).fuel - 1))).opn = opnC (ds t) (a t) := h.opn
  have hat : (S.th t).at_ = (a t : Int) := h.at_
  have hx : at2 (at3 K.c.progs t) (S.th t).at_ = at2 (cntP (ds t)) (a t) := by rw [hp,hat]
  have base : ∀ x : Instr,(x.op = 8 ∨ x.op = 9 ∨ x.op = 12 → 0 ≤ x.a ∧ x.a < 4) → (x.op = 8 ∨ x.op = 9 ∨ x.op = 10 ∨ x.op = 11 → 0 ≤ x.b ∧ x.b < 4) → (x.op = 15 ∨ x.op = 16 ∨ x.op = 17 → 0 ≤ x.a ∧ x.a < 3) →
   (x.op = 14 → 1 ≤ (opnC (ds t) (a t)).length) → DsI n t ⟨K,setM S t (fuT (S.th t) (IntKind.i64.wrap ((S.th t).fuel - 1))),x⟩ := fun x h1 h2 h3 h4 =>
   ⟨by show t < K.c.progs.length; rw [hK.pl]; exact ht,by show t < K.m.length; omega,h1,h2,h3,fun e => by show 1 ≤ ((setM S t _).th t).opn.length; rw [hth,hopn]; exact h4 e,
    by show S.o.length = S.w.length; rw [hI.own,hI.wl,List.length_replicate],by show K.c.locks.length ≤ 1000; rw [hl]; decide,
    by show ((setM S t _).th t).opn.length ≤ 1000; rw [hth,hopn]; have := opnC_len (ds t) (a t); omega,
    by show ((setM S t _).th t).log.length ≤ 1000; rw [hth]; show (S.th t).log.length ≤ 1000; rw [h.log]; decide,
    (fun c hc u hu => by have hu : u ∈ S.q c := hu; rw [hI.q c hc] at hu; cases hu),(fun c hc => by show (S.q c).length ≤ 3; rw [hI.q c hc]; decide)⟩
  show DsI n t ⟨K,_,at2 (at3 K.c.progs t) (S.th t).at_⟩
  rw [hx]
  rcases Nat.eq_zero_or_pos (a t) with h0 | h0
  ·rw [h0,cntP_at0]
   exact base _ (fun e => by simp at e) (fun e => by simp at e) (fun e => by simp at e) (fun e => by simp at e)
  ·have hk : (a t - 1) % 5 < 5 := Nat.mod_lt _ (by decide)
   generalize hk' : (a t - 1) % 5 = k at hk
   match k,hk with
   | 0,_ => rw [cntP_at h0 (by omega) hk' rfl]; exact base _ (fun e => by simp at e) (fun e => by simp at e) (fun e => by simp at e) (fun e => by simp at e)
   | 1,_ => rw [cntP_at h0 (by omega) hk' rfl]; exact base _ (fun e => ⟨(show (0 : Int) ≤ 2 by decide),(show (2 : Int) < 4 by decide)⟩) (fun e => ⟨(show (0 : Int) ≤ 0 by decide),(show (0 : Int) < 4 by decide)⟩) (fun e => by simp at e) (fun e => by simp at e)
   | 2,_ => rw [cntP_at h0 (by omega) hk' rfl]; exact base _ (fun e => by simp at e) (fun e => by simp at e) (fun e => by simp at e) (fun e => by simp at e)
   | 3,_ => rw [cntP_at h0 (by omega) hk' rfl]; exact base _ (fun e => ⟨(show (0 : Int) ≤ 2 by decide),(show (2 : Int) < 4 by decide)⟩) (fun e => ⟨(show (0 : Int) ≤ 0 by decide),(show (0 : Int) < 4 by decide)⟩) (fun e => by simp at e) (fun e => by simp at e)
   | 4,_ =>
    rw [cntP_at h0 (by omega) hk' rfl]
    refine base _ (fun e => by simp at e) (fun e => by simp at e) (fun e => by simp at e) (fun _ => ?_)
    rw [opnC_one (by omega)]
    exact qf 1
end
theorem w9_low (w : Nat → Int) : ltOO 40 (some (Go.Sy.Obj.cells (w9 w) : Ob)) = true := rfl
section
variable {i : Nat} {s : HL}
theorem gX_low (k : Nat) : ltOO 40 (gX i s k) = true := by
 unfold gX
 cases Nat.beq k (8 + 2 * nOf i) with
 | true => exact w9_low _
 | false =>
  cases Nat.beq k (9 + 2 * nOf i) with
  | true => rfl
  | false => rfl
theorem pkCall_ok (hs : HK i s) (hk : s.k < s.l.length + 400) : pkCall i s (tsOf s.l s.k) := by
 refine askP_ok ⟨⟨s.K,s.S⟩,toE_ok _ _ _ rfl ⟨pkI_of hs.ok hs.K.1 hs.K.2.1 hs.K.2.2.2 hs.inv _,fun y hy => ?_,trivial⟩⟩ (fun k _ => gX_low k) _
 obtain ⟨K',S',b⟩ := y
 obtain ⟨rfl,rfl,_⟩ := hy
 have hl := hs.l
 refine in23_ok (rows := s.rows) i (s.k + 1) (by rw [wrap64 (by omega) (by omega)]; rfl) ⟨⟨hs.r,hs.six,hs.l,hs.c0,hs.ps,hs.w,hs.K,hs.ok,by show s.k + 1 ≤ s.l.length + 400; omega,pick_ok hs.ok init_small hs.inv _⟩, ?_,trivial⟩
 show 1000 - (s.k + 1) < 1000 - s.k
 omega
theorem lgLoop_ok {P : Prop} (hP : P) : ∀ k,(∀ t,t < k → (s.S.th t).log.length ≤ 100000) → lgLoop s k P
 | 0,_ => hP
 | k + 1,h => by
  have hin : clD.pre ((s.S.th k).log,()) ∧ P := ⟨h k (by omega),hP⟩
  exact lgLoop_ok hin k fun t ht => h t (by omega)
theorem stLoop_ok {P : Prop} (hP : P) : ∀ k,(∀ t,t < k → (s.S.th t).status = 1) → stLoop s k P
 | 0,_ => hP
 | k + 1,h => by
  have hin : (((s.S.th k).status != 1) = true → false = true ∧ True) ∧ (((s.S.th k).status != 1) = false → P) := ⟨(fun e => by rw [h k (by omega)] at e; cases e),fun _ => hP⟩
  exact stLoop_ok hin k fun t ht => h t (by omega)
theorem wLoop_ok {P : Prop} (hP : P) : ∀ k,k ≤ s.S.w.length → k ≤ s.c0.length → (∀ t : Nat,t < k → at0 s.S.w t = IntKind.i64.wrap (s.w t + at0 s.c0 t)) → wLoop s k P
 | 0,_,_,_ => hP
 | k + 1,h1,h2,h => by
  have hin : ((0 : Int) ≤ (k : Int) ∧ (k : Int) < (s.S.w.length : Int)) ∧ ((0 : Int) ≤ (k : Int) ∧ (k : Int) < (s.S.w.length : Int)) ∧ ((0 : Int) ≤ (k : Int) ∧ (k : Int) < (s.c0.length : Int)) ∧
   ((at0 s.S.w k != IntKind.i64.wrap (s.w k + at0 s.c0 k)) = true → false = true ∧ True) ∧ ((at0 s.S.w k != IntKind.i64.wrap (s.w k + at0 s.c0 k)) = false → P) :=
   ⟨⟨by omega,by omega⟩,⟨by omega,by omega⟩,⟨by omega,by omega⟩,(fun e => by rw [h k (by omega),bne_self_eq_false] at e; cases e),fun _ => hP⟩
  exact wLoop_ok hin k (by omega) (by omega) fun t ht => h t (by omega)
theorem outP_ok (hs : HK i s) (hk : ¬ s.k < s.l.length + 400) : outP i s := by
 have hke : s.k = s.l.length + 400 := by have := hs.k; omega
 have hr : restC s.K (nOf i) (goC' s.K (nOf i) (dsR s.rows) (tsOf s.l) s.k) = 0 := by
  rw [hke]
  exact go_end hs.ok fun j hj => by rw [tsOf,if_neg (by omega)]
 obtain ⟨hst,hw⟩ := end_ok hs.ok hs.inv hr
 have hI := hs.inv
 have q0 : clD.pre (s.S.w,()) := by show s.S.w.length ≤ 100000; rw [hI.wl]; decide
 have q1 : clD.pre (s.S.o,()) := by show s.S.o.length ≤ 100000; rw [hI.own]; decide
 have q2 : ∀ c,c < 3 → clD.pre (s.S.q c,()) := fun c hc => by show (s.S.q c).length ≤ 100000; rw [hI.q c hc]; decide
 have q3 : (((s.S.w.length : Int) != 9) = true → false = true ∧ True) := fun e => by rw [hI.wl] at e; cases e
 have q4 : (((nOf i : Nat) : Int) == (s.ps.length : Int)) = true := by rw [hs.ps,beq_self_eq_true]
 have q5 : ∀ t : Nat,t < 9 → at0 s.S.w t = IntKind.i64.wrap (s.w t + at0 s.c0 t) := fun t ht => by
  have h1 := hw t ht
  have h2 := hs.w t ht
  have h3 := init_small t ht
  have hsum : sumC (fun u => (dsR s.rows u).count (t : Int)) (nOf i) = cntB s.rows i t := by
   by_cases e : i = 0
   ·have hr := hs.r.1
    subst e
    show 0 + (dsR s.rows 0).count (t : Int) = 0
    rw [rows_nil hr]
    rfl
   ·rw [nOf_succ e]; rfl
  have hb := cntB_le (rows := s.rows) (i := i) hs.six (t : Int)
  have hi := hs.r.2
  have hb2 : i * 6 ≤ 3 * 6 := Nat.mul_le_mul_right 6 hi
  rw [h1,hsum,h2,hs.c0,wrap64 (by omega) (by omega)]
  omega
 have q6 : ∀ t,t < nOf i → (s.S.th t).log.length ≤ 100000 := fun t ht => by rw [(hI.th t ht).log]; decide
 exact lgLoop_ok ⟨q0,q1,q2 0 (by decide),q2 1 (by decide),q2 2 (by decide),q3,fun _ => wLoop_ok (stLoop_ok ⟨q4,trivial⟩ _ hst) 9 (by rw [hI.wl]; exact qf 9) (by rw [hs.c0]; exact qf 9) q5⟩ _ q6
theorem p23_ok (hs : HK i s) : p23 i s := by
 have hl := hs.l
 have hkl := hs.k
 have hw : IntKind.i64.wrap ((s.l.length : Int) + 400) = (s.l.length : Int) + 400 := wrap64 (by omega) (by omega)
 unfold p23
 rw [hw]
 refine ⟨fun h => ⟨fun h1 => ?_,fun h1 => ?_⟩,fun h => outP_ok hs (by have := qc h; omega)⟩
 ·have h := qb h
  have h1 := qb h1
  refine ⟨⟨by omega,h1⟩,ixP_ok (pk_is _ 3 (by decide) (by decide)) ?_⟩
  have := pkCall_ok hs (by omega)
  rw [tsOf,if_pos (by omega)] at this
  exact this
 ·have h := qb h
  have h1 := qc h1
  have e : ((s.k : Int).tmod 3) = ((s.k % 3 : Nat) : Int) := rfl
  rw [e]
  have h3 : s.k % 3 < 3 := Nat.mod_lt _ (by decide)
  refine ixP_ok ⟨by omega,by omega⟩ ?_
  have := pkCall_ok hs (by omega)
  rw [tsOf,if_neg (by omega)] at this
  exact this
end
end Go.Proofs.YtcholkmididfmaaGreatDoor

/- Words that are counted up within their locks: the plain law. -/
import Derived.Test.YtcholkmididfmaaGreatDoorPk
namespace Go.Proofs.YtcholkmididfmaaGreatDoor
open Go.RowKit Go.Am Go.Sy
set_option linter.unusedVariables false
set_option linter.unusedSimpArgs false
def secC (d : Int) : List Instr := [⟨13,d.tdiv 3,0,0,0⟩,⟨8,2,0,0,d⟩,⟨2,2,2,1,0⟩,⟨9,2,0,0,d⟩,⟨14,0,0,0,0⟩]
def cntP (ds : List Int) : List Instr := ⟨1,1,0,0,1⟩ :: ds.flatMap secC
theorem flat_len : ∀ ds : List Int,(ds.flatMap secC).length = 5 * ds.length
 | [] => rfl
 | d :: ds => by rw [List.flatMap_cons,qo,flat_len ds,qn]; show 5 + _ = _; omega
theorem cntP_len (ds : List Int) : (cntP ds).length = 1 + 5 * ds.length := by rw [cntP,qn,flat_len]; omega
theorem flat_get : ∀ (ds : List Int) (j k : Nat),j < ds.length → k < 5 → (ds.flatMap secC)[5 * j + k]? = (secC (ds.getD j 0))[k]?
 | [],j,k,h,_ => by cases h
 | d :: ds,0,k,_,hk => by
  rw [List.flatMap_cons,qg (by show _ < 5; omega)]
  simp
 | d :: ds,j + 1,k,h,hk => by
  rw [List.flatMap_cons,qk (by show 5 ≤ _; omega)]
  have : 5 * (j + 1) + k - (secC d).length = 5 * j + k := by show _ - 5 = _; omega
  rw [this,flat_get ds j k (by simpa using h) hk]
  simp
def curD (ds : List Int) (a : Nat) : Int := ds.getD ((a - 1) / 5) 0
theorem at2_some {p : List Instr} {i : Nat} {x : Instr} (h : p[i]? = some x) : at2 p (i : Int) = x := by
 obtain ⟨hl,e⟩ := List.getElem?_eq_some_iff.1 h
 rw [at2_get hl,e]
theorem cntP_at {ds : List Int} {a k : Nat} {x : Instr} (h0 : 1 ≤ a) (hl : a < 1 + 5 * ds.length) (hk : (a - 1) % 5 = k) (hx : (secC (curD ds a))[k]? = some x) : at2 (cntP ds) (a : Int) = x := by
 refine at2_some ?_
 have e : a = (5 * ((a - 1) / 5) + k) + 1 := by omega
 rw [e,cntP,List.getElem?_cons_succ,flat_get ds _ k (by omega) (by omega)]
 exact hx
theorem cntP_at0 (ds : List Int) : at2 (cntP ds) ((0 : Nat) : Int) = ⟨1,1,0,0,1⟩ := at2_some rfl
def opnC (ds : List Int) (a : Nat) : List Held := if a = 0 ∨ (a - 1) % 5 = 0 then [] else [⟨(curD ds a).tdiv 3,false⟩]
def cntC (ds : List Int) (a : Nat) (d : Int) : Nat := (ds.take (a / 5)).count d
def sumC (f : Nat → Nat) : Nat → Nat
 | 0 => 0
 | n + 1 => sumC f n + f n
structure HOk (K : MK) (n : Nat) (ds : Nat → List Int) : Prop where
 n3 : n ≤ 3
 pl : K.c.progs.length = n
 reg : ∀ d : Int,0 ≤ d → d < 9 → regF K.c.locks d = d.tdiv 3
 pr : ∀ t : Nat,t < n → at3 K.c.progs t = cntP (ds t) ∨ (at3 K.c.progs t = [] ∧ ds t = [])
 dd : ∀ t,t < n → ∀ d ∈ ds t,0 ≤ d ∧ d < 9
 six : ∀ t,t < n → (ds t).length ≤ 6
def lenC (K : MK) (t : Nat) : Nat := (at3 K.c.progs t).length
structure Th (L : Nat) (ds : List Int) (w : List Int) (a : Nat) (x : One) : Prop where
 le : a ≤ L
 at_ : x.at_ = (a : Int)
 fuel : x.fuel = 200 - (a : Int)
 status : x.status = if a = L then 1 else 0
 awake : x.awake = -1
 opn : x.opn = opnC ds a
 log : x.log = []
 r0 : x.r0 = 0
 r1 : 1 ≤ a → x.r1 = 1
 r2 : 1 ≤ a → (a - 1) % 5 = 2 → x.r2 = at0 w (curD ds a)
 r3 : 1 ≤ a → (a - 1) % 5 = 3 → x.r2 = at0 w (curD ds a) + 1
structure HInv (K : MK) (n : Nat) (ds : Nat → List Int) (w0 : List Int) (a : Nat → Nat) (S : MT) : Prop where
 th : ∀ t,t < n → Th (lenC K t) (ds t) S.w (a t) (S.th t)
 own : S.o = List.replicate 9 (-1)
 wl : S.w.length = 9
 cnt : ∀ d : Nat,d < 9 → at0 S.w d = at0 w0 d + (sumC (fun t => cntC (ds t) (a t) d) n : Nat)
 q : ∀ c,c < 3 → S.q c = []
 mux : ∀ t u,t < n → u < n → t ≠ u → ∀ h ∈ opnC (ds t) (a t),∀ h' ∈ opnC (ds u) (a u),h.lock ≠ h'.lock
def canC (K : MK) (n : Nat) (ds : Nat → List Int) (a : Nat → Nat) (t : Nat) : Prop :=
 t < n ∧ a t < lenC K t ∧ (1 ≤ a t → (a t - 1) % 5 = 0 → ∀ u,u < n → ∀ h ∈ opnC (ds u) (a u),h.lock ≠ (curD (ds t) (a t)).tdiv 3)
section
variable {K : MK} {n : Nat} {ds : Nat → List Int} {w0 : List Int} {a : Nat → Nat} {S : MT}
theorem lenC_is (hK : HOk K n ds) {t : Nat} (ht : t < n) (hl : a t < lenC K t) : at3 K.c.progs t = cntP (ds t) ∧ lenC K t = 1 + 5 * (ds t).length := by
 rcases hK.pr t ht with h | ⟨h,_⟩
 ·exact ⟨h,by rw [lenC,h,cntP_len]⟩
 ·rw [lenC,h] at hl; cases hl
theorem lenC_le (hK : HOk K n ds) {t : Nat} (ht : t < n) : lenC K t ≤ 31 := by
 have := hK.six t ht
 rcases hK.pr t ht with h | ⟨h,_⟩
 ·rw [lenC,h,cntP_len]; omega
 ·rw [lenC,h]; exact Nat.zero_le _
theorem curD_ok (hK : HOk K n ds) {t : Nat} (ht : t < n) (hl : a t < 1 + 5 * (ds t).length) (h1 : 1 ≤ a t) : 0 ≤ curD (ds t) (a t) ∧ curD (ds t) (a t) < 9 := by
 refine hK.dd t ht _ ?_
 have : (a t - 1) / 5 < (ds t).length := by omega
 rw [curD,qi,qt this,Option.getD_some]
 exact List.getElem_mem this
theorem freeB_view (lock : Int) : freeB (allL S.th n) lock false = true ↔ ∀ u,u < n → ∀ h ∈ (S.th u).opn,h.lock ≠ lock := by
 rw [freeB,List.all_eq_true]
 constructor
 ·intro h u hu y hy
  have := List.all_eq_true.1 (h _ (allL_mem.2 ⟨u,hu,rfl⟩)) y hy
  simpa [lockFree] using this
 ·intro h x hx
  obtain ⟨u,hu,rfl⟩ := allL_mem.1 hx
  refine List.all_eq_true.2 fun y hy => ?_
  have := h u hu y hy
  simpa [lockFree] using this
theorem can_is (hK : HOk K n ds) (hI : HInv K n ds w0 a S) (t : Nat) : canB (viewM K n S) t = true ↔ canC K n ds a t := by
 unfold canB canC
 show (if ((t : Int) < 0 ∨ (t : Int) ≥ (allL S.th n).length ∨ (at12 (allL S.th n) t).status ≠ 0) then false else _) = true ↔ _
 rw [allL_len]
 by_cases ht : t < n
 ·have hT := hI.th t ht
  have hv : at12 (viewM K n S).all (t : Int) = S.th t := allL_at ht
  have hv' : at12 (allL S.th n) (t : Int) = S.th t := allL_at ht
  rw [hv',hT.status]
  by_cases hL : a t = lenC K t
  ·rw [if_pos hL,if_pos (by right; right; decide)]
   constructor
   ·intro h; cases h
   ·rintro ⟨_,h,_⟩; omega
  have hL' : a t < lenC K t := by have := hT.le; omega
  obtain ⟨hp,hlen⟩ := lenC_is hK ht hL'
  have h31 := lenC_le hK ht
  rw [if_neg hL,if_neg (by rintro (h | h | h) <;> omega),hv,hT.awake,if_neg (by decide)]
  have hent : entB (viewM K n S) t = decide (1 ≤ a t ∧ (a t - 1) % 5 = 0) := by
   rw [entB,hv,hT.awake,hT.fuel]
   have e1 : decide ((-1 : Int) < 0) = true := rfl
   have e2 : decide ((200 : Int) - (a t : Int) > 0) = true := decide_eq_true (by omega)
   rw [e1,e2,Bool.true_and,Bool.true_and]
   have e3 : ins (viewM K n S) t = at2 (cntP (ds t)) (a t) := by
    rw [ins,hv,hT.at_]
    show at2 (at3 K.c.progs t) _ = _
    rw [hp]
   rw [e3]
   rcases Nat.eq_zero_or_pos (a t) with h0 | h0
   ·rw [h0,cntP_at0]
    rfl
   ·have hk : (a t - 1) % 5 < 5 := Nat.mod_lt _ (by decide)
    generalize hk' : (a t - 1) % 5 = k at *
    match k,hk with
    | 0,_ => rw [cntP_at h0 (by omega) hk' rfl]; simp; omega
    | 1,_ => rw [cntP_at h0 (by omega) hk' rfl]; simp
    | 2,_ => rw [cntP_at h0 (by omega) hk' rfl]; simp
    | 3,_ => rw [cntP_at h0 (by omega) hk' rfl]; simp
    | 4,_ => rw [cntP_at h0 (by omega) hk' rfl]; simp
  rw [hent]
  by_cases hE : 1 ≤ a t ∧ (a t - 1) % 5 = 0
  ·have e3 : ins (viewM K n S) t = ⟨13,(curD (ds t) (a t)).tdiv 3,0,0,0⟩ := by
    rw [ins,hv,hT.at_]
    show at2 (at3 K.c.progs t) _ = _
    rw [hp,cntP_at hE.1 (by omega) hE.2 rfl]
   rw [decide_eq_true hE,if_pos rfl,e3]
   show freeB (allL S.th n) _ false = true ↔ _
   rw [freeB_view]
   constructor
   ·intro h
    exact ⟨ht,hL',fun _ _ u hu y hy => h u hu y (by rw [(hI.th u hu).opn]; exact hy)⟩
   ·rintro ⟨_,_,h⟩ u hu y hy
    exact h hE.1 hE.2 u hu y (by rw [(hI.th u hu).opn] at hy; exact hy)
  ·rw [decide_eq_false hE,if_neg (by decide)]
   exact ⟨fun _ => ⟨ht,hL',fun h1 h2 => absurd ⟨h1,h2⟩ hE⟩,fun _ => rfl⟩
 ·rw [if_pos (by right; left; omega)]
  exact ⟨(fun h => by cases h),fun h => absurd h.1 ht⟩
end
end Go.Proofs.YtcholkmididfmaaGreatDoor
/- Words that are counted up within their locks: what a pick makes. -/
namespace Go.Proofs.YtcholkmididfmaaGreatDoor
open Go.RowKit Go.Am Go.Sy
set_option linter.unusedVariables false
set_option linter.unusedSimpArgs false
def updA (a : Nat → Nat) (t v : Nat) : Nat → Nat := fun i => if i = t then v else a i
section
variable {K : MK} {S : MT} {t : Nat}
theorem nx_set {at_ : Int} {r : R4} {ms : List Int} {p : List Instr} (h0 : 0 ≤ at_) (h1 : at_ < p.length) (h : at2 p at_ = ⟨1,1,0,0,1⟩) : nextF p ms at_ r = (IntKind.i64.wrap (at_ + 1),⟨r.a,1,r.c,r.d⟩,true) := by
 unfold nextF
 rw [h,if_neg (by rintro (h | h | h | h); omega; omega; cases h; cases h),if_neg (by decide),if_neg (by decide)]
 rfl
theorem nx_add {at_ : Int} {r : R4} {ms : List Int} {p : List Instr} (h0 : 0 ≤ at_) (h1 : at_ < p.length) (h : at2 p at_ = ⟨2,2,2,1,0⟩) : nextF p ms at_ r = (IntKind.i64.wrap (at_ + 1),⟨r.a,r.b,IntKind.i64.wrap (r.c + r.b),r.d⟩,true) := by
 unfold nextF
 rw [h,if_neg (by rintro (h | h | h | h); omega; omega; cases h; cases h),if_neg (by decide),if_neg (by decide)]
 rfl
theorem does_set (h0 : 0 ≤ (S.th t).at_) (h1 : (S.th t).at_ < (at3 K.c.progs t).length) (h : at2 (at3 K.c.progs t) (S.th t).at_ = ⟨1,1,0,0,1⟩) :
 doesM K t S ⟨1,1,0,0,1⟩ = setM S t (goT (S.th t) (IntKind.i64.wrap ((S.th t).at_ + 1)) ⟨(S.th t).r0,1,(S.th t).r2,(S.th t).r3⟩) := by
 have e : nextF (at3 K.c.progs t) (at5 K.m t) (S.th t).at_ (regs (S.th t)) = _ := nx_set h0 h1 h
 unfold doesM
 rw [if_pos (by rfl)]
 simp only [e]
 rfl
theorem does_add (h0 : 0 ≤ (S.th t).at_) (h1 : (S.th t).at_ < (at3 K.c.progs t).length) (h : at2 (at3 K.c.progs t) (S.th t).at_ = ⟨2,2,2,1,0⟩) :
 doesM K t S ⟨2,2,2,1,0⟩ = setM S t (goT (S.th t) (IntKind.i64.wrap ((S.th t).at_ + 1)) ⟨(S.th t).r0,(S.th t).r1,IntKind.i64.wrap ((S.th t).r2 + (S.th t).r1),(S.th t).r3⟩) := by
 have e : nextF (at3 K.c.progs t) (at5 K.m t) (S.th t).at_ (regs (S.th t)) = _ := nx_add h0 h1 h
 unfold doesM
 rw [if_pos (by rfl)]
 simp only [e]
 rfl
theorem does_enter (l : Int) : doesM K t S ⟨13,l,0,0,0⟩ = nextM (setM S t (opT (S.th t) ((S.th t).opn ++ [⟨l,false⟩]))) t := rfl
theorem does_leave : doesM K t S ⟨14,0,0,0,0⟩ = nextM (setM S t (opT (S.th t) ((S.th t).opn.take ((S.th t).opn.length - 1)))) t := rfl
theorem accNo_no {op a b c d l : Int} (hop : op = 8 ∨ op = 9) (hb : b = 0) (h0 : (S.th t).r0 = 0) (hd : 0 ≤ d ∧ d < 9) (hl : (S.th t).opn = [⟨l,false⟩]) (hr : regF K.c.locks d = l) (ho : S.o = List.replicate 9 (-1)) (hw : S.w.length = 9) :
 accW K S t ⟨op,a,b,c,d⟩ = d ∧ accNo K S t ⟨op,a,b,c,d⟩ = false := by
 have eW : accW K S t ⟨op,a,b,c,d⟩ = d := by
  unfold accW
  subst hb
  show IntKind.i64.wrap ((S.th t).r0 + d) = d
  rw [h0,wrap64 (by omega) (by omega)]
  omega
 refine ⟨eW, ?_⟩
 unfold accNo
 simp only [eW]
 have hat : at0 S.o d = -1 := by
  rw [ho]
  have : d = ((d.toNat : Nat) : Int) := by omega
  rw [this,at0_get (by rw [List.length_replicate]; omega),List.getElem_replicate]
 have c1 : decide (d < 0) = false := decide_eq_false (by omega)
 have c2 : decide (d ≥ (S.w.length : Int)) = false := decide_eq_false (by omega)
 have c3 : holdsB (S.th t).opn op (regF K.c.locks d) = true := by
  rw [hl,hr]
  rcases hop with rfl | rfl <;> simp [holdsB]
 rw [c1,c2,c3,hat,hl]
 rcases hop with rfl | rfl <;> rfl
theorem does_load {a c d l : Int} (h0 : (S.th t).r0 = 0) (hd : 0 ≤ d ∧ d < 9) (hl : (S.th t).opn = [⟨l,false⟩]) (hr : regF K.c.locks d = l) (ho : S.o = List.replicate 9 (-1)) (hw : S.w.length = 9) :
 doesM K t S ⟨8,2,0,0,d⟩ = nextM { S with th := updT S.th t (setR (S.th t) ⟨(S.th t).r0,(S.th t).r1,at0 S.w d,(S.th t).r3⟩) } t := by
 obtain ⟨e1,e2⟩ := accNo_no (K := K) (S := S) (t := t) (op := 8) (a := 2) (b := 0) (c := 0) (.inl rfl) rfl h0 hd hl hr ho hw
 unfold doesM
 rw [if_neg (show ¬localB 8 = true by decide),if_pos (.inl rfl),e2]
 show nextM (accM K S t _) t = _
 unfold accM
 simp only [e1,e2]
 rfl
theorem does_store {a c d l : Int} (h0 : (S.th t).r0 = 0) (hd : 0 ≤ d ∧ d < 9) (hl : (S.th t).opn = [⟨l,false⟩]) (hr : regF K.c.locks d = l) (ho : S.o = List.replicate 9 (-1)) (hw : S.w.length = 9) :
 doesM K t S ⟨9,2,0,0,d⟩ = nextM { S with w := S.w.set d.toNat (S.th t).r2 } t := by
 obtain ⟨e1,e2⟩ := accNo_no (K := K) (S := S) (t := t) (op := 9) (a := 2) (b := 0) (c := 0) (.inr rfl) rfl h0 hd hl hr ho hw
 unfold doesM
 rw [if_neg (show ¬localB 9 = true by decide),if_pos (.inr (.inl rfl)),e2]
 show nextM (accM K S t _) t = _
 unfold accM
 simp only [e1,e2]
 rfl
end
structure Turn (S S' : MT) (t : Nat) (y : One) (w : List Int) : Prop where
 th : S'.th t = y
 oth : ∀ u,u ≠ t → S'.th u = S.th u
 w : S'.w = w
 o : S'.o = S.o
 q : S'.q = S.q
theorem turn_set {S S' : MT} {t : Nat} {y y' : One} {w : List Int} (h : Turn S S' t y w) : Turn S (setM S' t y') t y' w :=
 ⟨updT_same _ _ _,fun u hu => by show updT S'.th t y' u = _; rw [updT_other _ _ hu,h.oth u hu],h.w,h.o,h.q⟩
theorem turn_self (S : MT) (t : Nat) : Turn S S t (S.th t) S.w := ⟨rfl,fun _ _ => rfl,rfl,rfl,rfl⟩
def nextT (K : MK) (t : Nat) (y : One) : One := if y.status = 0 ∧ y.at_ ≥ (at3 K.c.progs t).length then stT y 1 else y
theorem turn_done {K : MK} {S S' : MT} {t : Nat} {y : One} {w : List Int} (h : Turn S S' t y w) : Turn S (doneM K t S') t (nextT K t y) w := by
 unfold doneM nextT
 rw [h.th]
 by_cases hc : y.status = 0 ∧ y.at_ ≥ (at3 K.c.progs t).length
 ·rw [if_pos hc,if_pos hc]
  exact turn_set h
 ·rw [if_neg hc,if_neg hc]
  exact h
section
variable {K : MK} {n : Nat} {ds : Nat → List Int} {w0 : List Int} {a : Nat → Nat} {S S' : MT}
theorem sumC_ext {f g : Nat → Nat} : ∀ {n : Nat},(∀ t,t < n → f t = g t) → sumC f n = sumC g n
 | 0,_ => rfl
 | n + 1,h => by rw [sumC,sumC,sumC_ext fun t ht => h t (by omega),h n (by omega)]
theorem sumC_upd {f g : Nat → Nat} {t : Nat} : ∀ {n : Nat},t < n → (∀ u,u < n → u ≠ t → g u = f u) → sumC g n + f t = sumC f n + g t
 | n + 1,ht,h => by
  rw [sumC,sumC]
  by_cases e : t = n
  ·subst e
   rw [sumC_ext (f := g) (g := f) fun u hu => h u (by omega) (by omega)]
   omega
  ·have := sumC_upd (f := f) (g := g) (t := t) (n := n) (by omega) fun u hu hne => h u (by omega) hne
   rw [h n (by omega) (by omega)]
   omega
theorem inv_turn {t : Nat} {y : One} {w : List Int} (hI : HInv K n ds w0 a S) (ht : t < n) (hT : Turn S S' t y w) (hw : w.length = 9)
 (hy : Th (lenC K t) (ds t) w (a t + 1) y)
 (ho : ∀ u,u < n → u ≠ t → 1 ≤ a u → (a u - 1) % 5 = 2 ∨ (a u - 1) % 5 = 3 → at0 w (curD (ds u) (a u)) = at0 S.w (curD (ds u) (a u)))
 (hc : ∀ d : Nat,d < 9 → at0 w d + (cntC (ds t) (a t) d : Nat) = at0 S.w d + (cntC (ds t) (a t + 1) d : Nat))
 (hm : ∀ u,u < n → u ≠ t → ∀ h ∈ opnC (ds t) (a t + 1),∀ h' ∈ opnC (ds u) (a u),h.lock ≠ h'.lock) : HInv K n ds w0 (updA a t (a t + 1)) S' where
 th := fun u hu => by
  by_cases e : u = t
  ·subst e
   rw [hT.th,hT.w,updA,if_pos rfl]
   exact hy
  ·rw [hT.oth u e,hT.w,updA,if_neg e]
   have h := hI.th u hu
   exact ⟨h.le,h.at_,h.fuel,h.status,h.awake,h.opn,h.log,h.r0,h.r1,fun h1 h2 => by rw [h.r2 h1 h2,ho u hu e h1 (.inl h2)],fun h1 h2 => by rw [h.r3 h1 h2,ho u hu e h1 (.inr h2)]⟩
 own := by rw [hT.o]; exact hI.own
 wl := by rw [hT.w]; exact hw
 cnt := fun d hd => by
  rw [hT.w]
  have h1 := hc d hd
  have h2 := hI.cnt d hd
  have h3 := sumC_upd (f := fun u => cntC (ds u) (a u) d) (g := fun u => cntC (ds u) (updA a t (a t + 1) u) d) ht fun u hu hne => by
   show cntC (ds u) (updA a t (a t + 1) u) d = _
   rw [updA,if_neg hne]
  simp only [updA,if_true] at h3
  simp only [updA]
  omega
 q := fun c hc => by rw [hT.q]; exact hI.q c hc
 mux := fun u v hu hv hne h hh h' hh' => by
  by_cases eu : u = t
  ·subst eu
   have ev : v ≠ u := fun e => hne e.symm
   rw [updA,if_pos rfl] at hh
   rw [updA,if_neg ev] at hh'
   exact hm v hv ev h hh h' hh'
  ·by_cases ev : v = t
   ·subst ev
    rw [updA,if_neg eu] at hh
    rw [updA,if_pos rfl] at hh'
    exact (hm u hu eu h' hh' h hh).symm
   ·rw [updA,if_neg eu] at hh
    rw [updA,if_neg ev] at hh'
    exact hI.mux u v hu hv hne h hh h' hh'
theorem cntC_same {l : List Int} {b : Nat} (d : Int) (h : (b + 1) / 5 = b / 5) : cntC l (b + 1) d = cntC l b d := by rw [cntC,cntC,h]
theorem opnC_nil {l : List Int} {b : Nat} (h : b = 0 ∨ (b - 1) % 5 = 0) : opnC l b = [] := by rw [opnC,if_pos h]
theorem opnC_one {l : List Int} {b : Nat} (h : ¬(b = 0 ∨ (b - 1) % 5 = 0)) : opnC l b = [⟨(curD l b).tdiv 3,false⟩] := by rw [opnC,if_neg h]
theorem curD_next {l : List Int} {b : Nat} (h : 1 ≤ b) (hk : (b - 1) % 5 ≠ 4) : curD l (b + 1) = curD l b := by
 have : (b + 1 - 1) / 5 = (b - 1) / 5 := by omega
 rw [curD,curD,this]
end
end Go.Proofs.YtcholkmididfmaaGreatDoor
/- Words that are counted up within their locks: each pick keeps the count. -/
namespace Go.Proofs.YtcholkmididfmaaGreatDoor
open Go.RowKit Go.Am Go.Sy
set_option linter.unusedVariables false
set_option linter.unusedSimpArgs false
section
variable {K : MK} {n : Nat} {ds : Nat → List Int} {w0 : List Int} {a : Nat → Nat} {S : MT}
def oneC (b : Nat) (x : One) (r1 r2 : Int) (o : List Held) : One := ⟨b,200 - (b : Int),x.status,x.r0,r1,r2,x.r3,x.awake,o,x.log⟩
theorem nextT_th {L : Nat} {l : List Int} {w : List Int} {b : Nat} {x : One} {r1 r2 : Int} {o : List Held} {w' : List Int} (t : Nat) (hL : lenC K t = L) (h : Th L l w b x) (hl : b < L) (ho : o = opnC l (b + 1)) (h1 : r1 = 1)
 (h2 : b % 5 = 2 → r2 = at0 w' (curD l (b + 1))) (h3 : b % 5 = 3 → r2 = at0 w' (curD l (b + 1)) + 1) : Th L l w' (b + 1) (nextT K t (oneC (b + 1) x r1 r2 o)) := by
 have hs : x.status = 0 := by rw [h.status,if_neg (by omega)]
 have e : nextT K t (oneC (b + 1) x r1 r2 o) = stT (oneC (b + 1) x r1 r2 o) (if b + 1 = L then 1 else 0) := by
  unfold nextT
  by_cases hc : b + 1 = L
  ·rw [if_pos ⟨hs,by show ((b + 1 : Nat) : Int) ≥ _; unfold lenC at hL; omega⟩,if_pos hc]
  ·rw [if_neg (by rintro ⟨_,h'⟩; have h' : ((b + 1 : Nat) : Int) ≥ ((at3 K.c.progs t).length : Int) := h'; unfold lenC at hL; omega),if_neg hc]
   show oneC (b + 1) x r1 r2 o = stT (oneC (b + 1) x r1 r2 o) 0
   unfold oneC stT
   rw [hs]
 rw [e]
 exact ⟨by omega,rfl,rfl,rfl,h.awake,ho,h.log,h.r0,fun _ => h1,fun _ h' => h2 (by omega),fun _ h' => h3 (by omega)⟩
theorem goM_is (hK : HOk K n ds) (hI : HInv K n ds w0 a S) {t : Nat} (ht : t < n) (hl : a t < lenC K t) :
 goM K t S = doesM K t (setM S t (fuT (S.th t) (199 - (a t : Int)))) (at2 (cntP (ds t)) (a t)) := by
 have hT := hI.th t ht
 have h31 := lenC_le hK ht
 obtain ⟨hp,_⟩ := lenC_is hK ht hl
 unfold goM
 rw [hT.awake,if_neg (by decide),hT.fuel,if_neg (by omega),hp,hT.at_,wrap64 (by omega) (by omega)]
 congr 3
 omega
theorem setM_th (S : MT) (t : Nat) (y : One) : (setM S t y).th t = y := updT_same _ _ _
theorem sum_le {f : Nat → Nat} {k : Nat} : ∀ {n : Nat},(∀ t,t < n → f t ≤ k) → sumC f n ≤ n * k
 | 0,_ => by rw [sumC]; omega
 | n + 1,h => by
  have := sum_le (f := f) (k := k) (n := n) fun t ht => h t (by omega)
  have := h n (by omega)
  rw [sumC,Nat.add_mul,Nat.one_mul]
  omega
theorem cntC_le (hK : HOk K n ds) {t : Nat} (ht : t < n) (b : Nat) (d : Int) : cntC (ds t) b d ≤ 6 := by
 have h1 : ((ds t).take (b / 5)).count d ≤ ((ds t).take (b / 5)).length := List.count_le_length
 have h2 := hK.six t ht
 rw [List.length_take] at h1
 rw [cntC]
 omega
theorem small_w (hK : HOk K n ds) (hw0 : ∀ d : Nat,d < 9 → 0 ≤ at0 w0 d ∧ at0 w0 d ≤ 1000) (hI : HInv K n ds w0 a S) (d : Nat) (hd : d < 9) : 0 ≤ at0 S.w d ∧ at0 S.w d ≤ 1018 := by
 have h1 := hI.cnt d hd
 have h2 := hw0 d hd
 have h3 := sum_le (f := fun t => cntC (ds t) (a t) d) (k := 6) (n := n) fun t ht => cntC_le hK ht _ _
 have h4 := hK.n3
 have h5 : n * 6 ≤ 3 * 6 := Nat.mul_le_mul_right 6 h4
 omega
theorem tdiv_ne {x y : Int} (h : x.tdiv 3 ≠ y.tdiv 3) : x ≠ y := fun e => h (by rw [e])
theorem at0_set {w : List Int} {i : Nat} {v : Int} (hi : i < w.length) (d : Int) (h0 : 0 ≤ d) (hd : d < w.length) : at0 (w.set i v) d = if d = (i : Int) then v else at0 w d := by
 obtain ⟨k,rfl⟩ := Int.eq_ofNat_of_zero_le h0
 have hk : k < w.length := by omega
 rw [at0_get (by rw [qz]; exact hk),at0_get hk,List.getElem_set]
 by_cases e : i = k
 ·rw [if_pos e,if_pos (by omega)]
 ·rw [if_neg e,if_neg (by omega)]
theorem step_ok (hK : HOk K n ds) (hw0 : ∀ d : Nat,d < 9 → 0 ≤ at0 w0 d ∧ at0 w0 d ≤ 1000) (hI : HInv K n ds w0 a S) {t : Nat} (hc : canC K n ds a t) : HInv K n ds w0 (updA a t (a t + 1)) (pickM K n t S) := by
 obtain ⟨ht,hl,hfree⟩ := hc
 have hT := hI.th t ht
 have h31 := lenC_le hK ht
 obtain ⟨hp,hlen⟩ := lenC_is hK ht hl
 have hpk : pickM K n t S = doneM K t (goM K t S) := by rw [pickM,if_pos ((can_is hK hI t).2 ⟨ht,hl,hfree⟩)]
 rw [hpk,goM_is hK hI ht hl]
 generalize hS0 : setM S t (fuT (S.th t) (199 - (a t : Int))) = S0
 have hz : S0.th t = fuT (S.th t) (199 - (a t : Int)) := by rw [← hS0]; exact setM_th _ _ _
 have hT0 : Turn S S0 t (fuT (S.th t) (199 - (a t : Int))) S.w := by rw [← hS0]; exact turn_set (turn_self S t)
 have hat : (S0.th t).at_ = (a t : Int) := by rw [hz]; exact hT.at_
 have hat0 : 0 ≤ (S0.th t).at_ := by omega
 have hat1 : (S0.th t).at_ < (at3 K.c.progs t).length := by rw [hat]; have : lenC K t = (at3 K.c.progs t).length := rfl; omega
 have hwr : IntKind.i64.wrap ((S0.th t).at_ + 1) = ((a t + 1 : Nat) : Int) := by rw [hat,wrap64 (by omega) (by omega)]; rfl
 have hfu : (199 : Int) - (a t : Int) = 200 - ((a t + 1 : Nat) : Int) := by omega
 rcases Nat.eq_zero_or_pos (a t) with h0 | h0
 ·-- at its beginning
  have hx : at2 (cntP (ds t)) (a t) = ⟨1,1,0,0,1⟩ := by rw [h0]; exact cntP_at0 _
  rw [hx,does_set hat0 hat1 (by rw [hp,hat,hx]),hwr,hz]
  have hTy := turn_done (K := K) (turn_set (y' := goT (fuT (S.th t) (199 - (a t : Int))) ((a t + 1 : Nat) : Int) ⟨(S.th t).r0,1,(S.th t).r2,(S.th t).r3⟩) hT0)
  refine inv_turn hI ht hTy hI.wl ?_ (fun _ _ _ _ _ => rfl) (fun d _ => by rw [cntC_same _ (by omega)]) (fun u _ _ h hh => ?_)
  ·have := nextT_th (K := K) t rfl hT hl (o := (S.th t).opn) (r1 := 1) (r2 := (S.th t).r2) (w' := S.w) (by rw [hT.opn,opnC_nil (.inl h0),opnC_nil (.inr (by omega))]) rfl (by omega) (by omega)
   rw [oneC,← hfu] at this
   exact this
  ·rw [opnC_nil (.inr (by omega))] at hh; cases hh
 have hD := curD_ok (a := a) hK ht (by omega) h0
 have hr1 := hT.r1 h0
 have hreg := hK.reg _ hD.1 hD.2
 have hop0 : (S0.th t).opn = opnC (ds t) (a t) := by rw [hz]; exact hT.opn
 have hr00 : (S0.th t).r0 = 0 := by rw [hz]; exact hT.r0
 have how : S0.o = List.replicate 9 (-1) := by rw [hT0.o]; exact hI.own
 have hww : S0.w.length = 9 := by rw [hT0.w]; exact hI.wl
 have hk : (a t - 1) % 5 < 5 := Nat.mod_lt _ (by decide)
 generalize hk' : (a t - 1) % 5 = k at hk
 match k,hk with
 | 0,_ =>
  rw [cntP_at h0 (by omega) hk' rfl,does_enter]
  have e0 : (S0.th t).opn = [] := by rw [hop0,opnC_nil (.inr hk')]
  have hTy := turn_done (K := K) (turn_set (y' := goT (opT (S0.th t) ((S0.th t).opn ++ [⟨(curD (ds t) (a t)).tdiv 3,false⟩])) ((a t + 1 : Nat) : Int) (regs (S0.th t))) (turn_set (y' := opT (S0.th t) ((S0.th t).opn ++ [⟨(curD (ds t) (a t)).tdiv 3,false⟩])) hT0))
  have eN : nextM (setM S0 t (opT (S0.th t) ((S0.th t).opn ++ [⟨(curD (ds t) (a t)).tdiv 3,false⟩]))) t = setM (setM S0 t (opT (S0.th t) ((S0.th t).opn ++ [⟨(curD (ds t) (a t)).tdiv 3,false⟩]))) t (goT (opT (S0.th t) ((S0.th t).opn ++ [⟨(curD (ds t) (a t)).tdiv 3,false⟩])) ((a t + 1 : Nat) : Int) (regs (S0.th t))) := by
   rw [nextM,setM_th,← hwr]; rfl
  rw [eN]
  have e1 : opnC (ds t) (a t + 1) = [⟨(curD (ds t) (a t)).tdiv 3,false⟩] := by rw [opnC_one (by omega),curD_next h0 (by omega)]
  refine inv_turn hI ht hTy hI.wl ?_ (fun _ _ _ _ _ => rfl) (fun d _ => by rw [cntC_same _ (by omega)]) (fun u hu hne h hh h' hh' => ?_)
  ·have := nextT_th (K := K) t rfl hT hl (o := (S0.th t).opn ++ [⟨(curD (ds t) (a t)).tdiv 3,false⟩]) (r1 := (S.th t).r1) (r2 := (S.th t).r2) (w' := S.w) (by rw [e0,e1]; rfl) hr1 (by omega) (by omega)
   rw [oneC,← hfu] at this
   rw [hz] at this ⊢
   exact this
  ·rw [e1] at hh
   obtain rfl : h = _ := List.mem_singleton.1 hh
   exact (hfree h0 hk' u hu h' hh').symm
 | 1,_ =>
  have e0 : (S0.th t).opn = [⟨(curD (ds t) (a t)).tdiv 3,false⟩] := by rw [hop0,opnC_one (by omega)]
  rw [cntP_at h0 (by omega) hk' rfl,does_load (a := 0) (c := 0) hr00 hD e0 hreg how hww]
  have e1 : opnC (ds t) (a t + 1) = opnC (ds t) (a t) := by rw [opnC_one (by omega),opnC_one (by omega),curD_next h0 (by omega)]
  have hTy := turn_done (K := K) (turn_set (y' := goT (setR (S0.th t) ⟨(S0.th t).r0,(S0.th t).r1,at0 S0.w (curD (ds t) (a t)),(S0.th t).r3⟩) ((a t + 1 : Nat) : Int) ⟨(S0.th t).r0,(S0.th t).r1,at0 S0.w (curD (ds t) (a t)),(S0.th t).r3⟩) (turn_set (y' := setR (S0.th t) ⟨(S0.th t).r0,(S0.th t).r1,at0 S0.w (curD (ds t) (a t)),(S0.th t).r3⟩) hT0))
  have eN : nextM { S0 with th := updT S0.th t (setR (S0.th t) ⟨(S0.th t).r0,(S0.th t).r1,at0 S0.w (curD (ds t) (a t)),(S0.th t).r3⟩) } t = setM (setM S0 t (setR (S0.th t) ⟨(S0.th t).r0,(S0.th t).r1,at0 S0.w (curD (ds t) (a t)),(S0.th t).r3⟩)) t (goT (setR (S0.th t) ⟨(S0.th t).r0,(S0.th t).r1,at0 S0.w (curD (ds t) (a t)),(S0.th t).r3⟩) ((a t + 1 : Nat) : Int) ⟨(S0.th t).r0,(S0.th t).r1,at0 S0.w (curD (ds t) (a t)),(S0.th t).r3⟩) := by
   show setM (setM S0 t _) t (goT ((setM S0 t _).th t) (IntKind.i64.wrap (((setM S0 t _).th t).at_ + 1)) (regs ((setM S0 t _).th t))) = _
   rw [setM_th,← hwr]; rfl
  rw [eN]
  refine inv_turn hI ht hTy hI.wl ?_ (fun _ _ _ _ _ => rfl) (fun d _ => by rw [cntC_same _ (by omega)]) (fun u hu hne h hh h' hh' => hI.mux t u ht hu hne.symm h (by rw [← e1]; exact hh) h' hh')
  ·have := nextT_th (K := K) t rfl hT hl (o := (S.th t).opn) (r1 := (S.th t).r1) (r2 := at0 S.w (curD (ds t) (a t))) (w' := S.w) (by rw [hT.opn,e1]) hr1 (fun _ => by rw [curD_next h0 (by omega)]) (by omega)
   rw [oneC,← hfu] at this
   rw [hT0.w,hz]
   exact this
 | 2,_ =>
  have hx : at2 (cntP (ds t)) (a t) = ⟨2,2,2,1,0⟩ := cntP_at h0 (by omega) hk' rfl
  rw [hx,does_add hat0 hat1 (by rw [hp,hat,hx]),hwr,hz]
  have hTy := turn_done (K := K) (turn_set (y' := goT (fuT (S.th t) (199 - (a t : Int))) ((a t + 1 : Nat) : Int) ⟨(S.th t).r0,(S.th t).r1,IntKind.i64.wrap ((S.th t).r2 + (S.th t).r1),(S.th t).r3⟩) hT0)
  have e1 : opnC (ds t) (a t + 1) = opnC (ds t) (a t) := by rw [opnC_one (by omega),opnC_one (by omega),curD_next h0 (by omega)]
  have hv : IntKind.i64.wrap ((S.th t).r2 + (S.th t).r1) = at0 S.w (curD (ds t) (a t)) + 1 := by
   have hs := small_w hK hw0 hI (curD (ds t) (a t)).toNat (by omega)
   rw [Int.toNat_of_nonneg hD.1] at hs
   rw [hT.r2 h0 hk',hr1,wrap64 (by omega) (by omega)]
  refine inv_turn hI ht hTy hI.wl ?_ (fun _ _ _ _ _ => rfl) (fun d _ => by rw [cntC_same _ (by omega)]) (fun u hu hne h hh h' hh' => hI.mux t u ht hu hne.symm h (by rw [← e1]; exact hh) h' hh')
  ·have := nextT_th (K := K) t rfl hT hl (o := (S.th t).opn) (r1 := (S.th t).r1) (r2 := IntKind.i64.wrap ((S.th t).r2 + (S.th t).r1)) (w' := S.w) (by rw [hT.opn,e1]) hr1 (by omega) (fun _ => by rw [hv,curD_next h0 (by omega)])
   rw [oneC,← hfu] at this
   exact this
 | 3,_ =>
  have e0 : (S0.th t).opn = [⟨(curD (ds t) (a t)).tdiv 3,false⟩] := by rw [hop0,opnC_one (by omega)]
  rw [cntP_at h0 (by omega) hk' rfl,does_store (a := 0) (c := 0) hr00 hD e0 hreg how hww]
  have e1 : opnC (ds t) (a t + 1) = opnC (ds t) (a t) := by rw [opnC_one (by omega),opnC_one (by omega),curD_next h0 (by omega)]
  have hT1 : Turn S { S0 with w := S0.w.set (curD (ds t) (a t)).toNat (S0.th t).r2 } t (fuT (S.th t) (199 - (a t : Int))) (S.w.set (curD (ds t) (a t)).toNat (S.th t).r2) :=
   ⟨hT0.th,hT0.oth,by show S0.w.set _ _ = _; rw [hT0.w,hz]; rfl,hT0.o,hT0.q⟩
  have hTy := turn_done (K := K) (turn_set (y' := goT (S0.th t) ((a t + 1 : Nat) : Int) (regs (S0.th t))) hT1)
  have eN : nextM { S0 with w := S0.w.set (curD (ds t) (a t)).toNat (S0.th t).r2 } t = setM { S0 with w := S0.w.set (curD (ds t) (a t)).toNat (S0.th t).r2 } t (goT (S0.th t) ((a t + 1 : Nat) : Int) (regs (S0.th t))) := by
   rw [nextM,← hwr]
  rw [eN]
  have hset : ∀ d : Int,0 ≤ d → d < 9 → at0 (S.w.set (curD (ds t) (a t)).toNat (S.th t).r2) d = if d = curD (ds t) (a t) then (S.th t).r2 else at0 S.w d := fun d h h' => by
   rw [at0_set (by rw [hI.wl]; omega) d h (by rw [hI.wl]; exact h'),Int.toNat_of_nonneg hD.1]
  refine inv_turn hI ht hTy (by rw [qz]; exact hI.wl) ?_ (fun u hu hne h1 h2 => ?_) (fun d hd => ?_) (fun u hu hne h hh h' hh' => hI.mux t u ht hu hne.symm h (by rw [← e1]; exact hh) h' hh')
  ·have := nextT_th (K := K) t rfl hT hl (o := (S.th t).opn) (r1 := (S.th t).r1) (r2 := (S.th t).r2) (w' := S.w.set (curD (ds t) (a t)).toNat (S.th t).r2) (by rw [hT.opn,e1]) hr1 (by omega) (by omega)
   rw [oneC,← hfu] at this
   rw [hz]
   exact this
  ·have hlu : a u < lenC K u := by
    have := (hI.th u hu).le
    rcases hK.pr u hu with hq | ⟨hq,_⟩
    ·have : lenC K u = 1 + 5 * (ds u).length := by rw [lenC,hq,cntP_len]
     omega
    ·have : lenC K u = 0 := by rw [lenC,hq]; rfl
     omega
   have hDu := curD_ok (a := a) hK hu (by have := (lenC_is hK hu hlu).2; omega) h1
   rw [hset _ hDu.1 hDu.2,if_neg]
   have := hI.mux u t hu ht hne ⟨(curD (ds u) (a u)).tdiv 3,false⟩ (by rw [opnC_one (by omega)]; exact List.mem_singleton.2 rfl) ⟨(curD (ds t) (a t)).tdiv 3,false⟩ (by rw [opnC_one (by omega)]; exact List.mem_singleton.2 rfl)
   exact tdiv_ne this
  ·have hlen' : (a t - 1) / 5 < (ds t).length := by omega
   have hq : a t / 5 = (a t - 1) / 5 ∧ (a t + 1) / 5 = (a t - 1) / 5 + 1 := by omega
   have hcur : curD (ds t) (a t) = (ds t)[(a t - 1) / 5] := by rw [curD,qi,qt hlen',Option.getD_some]
   rw [hset d (by omega) (by omega),cntC,cntC,hq.1,hq.2,List.take_succ_eq_append_getElem hlen',List.count_append,List.count_singleton,← hcur]
   by_cases e : (d : Int) = curD (ds t) (a t)
   ·rw [if_pos e,hT.r3 h0 hk',e]
    simp
    omega
   ·rw [if_neg e]
    have : (curD (ds t) (a t) == (d : Int)) = false := by rw [beq_eq_false_iff_ne]; exact fun h => e h.symm
    rw [this]
    simp
 | 4,_ =>
  have e0 : (S0.th t).opn = [⟨(curD (ds t) (a t)).tdiv 3,false⟩] := by rw [hop0,opnC_one (by omega)]
  rw [cntP_at h0 (by omega) hk' rfl,does_leave]
  have e2 : (S0.th t).opn.take ((S0.th t).opn.length - 1) = [] := by rw [e0]; rfl
  rw [e2]
  have hTy := turn_done (K := K) (turn_set (y' := goT (opT (S0.th t) []) ((a t + 1 : Nat) : Int) (regs (S0.th t))) (turn_set (y' := opT (S0.th t) []) hT0))
  have eN : nextM (setM S0 t (opT (S0.th t) [])) t = setM (setM S0 t (opT (S0.th t) [])) t (goT (opT (S0.th t) []) ((a t + 1 : Nat) : Int) (regs (S0.th t))) := by
   rw [nextM,setM_th,← hwr]; rfl
  rw [eN]
  refine inv_turn hI ht hTy hI.wl ?_ (fun _ _ _ _ _ => rfl) (fun d _ => by rw [cntC_same _ (by omega)]) (fun u hu hne h hh h' hh' => ?_)
  ·have := nextT_th (K := K) t rfl hT hl (o := []) (r1 := (S.th t).r1) (r2 := (S.th t).r2) (w' := S.w) (by rw [opnC_nil (.inr (by omega))]) hr1 (by omega) (by omega)
   rw [oneC,← hfu] at this
   rw [hz]
   exact this
  ·rw [opnC_nil (.inr (by omega))] at hh; cases hh
end
end Go.Proofs.YtcholkmididfmaaGreatDoor
/- Words that are counted up within their locks: round by round all come to their end. -/
namespace Go.Proofs.YtcholkmididfmaaGreatDoor
open Go.RowKit Go.Am Go.Sy
set_option linter.unusedVariables false
set_option linter.unusedSimpArgs false
section
variable {K : MK} {n : Nat} {ds : Nat → List Int} {w0 : List Int} {a : Nat → Nat} {S : MT}
open Classical in
noncomputable def stepC (K : MK) (n : Nat) (ds : Nat → List Int) (a : Nat → Nat) (t : Nat) : Nat → Nat := if canC K n ds a t then updA a t (a t + 1) else a
noncomputable def goC' (K : MK) (n : Nat) (ds : Nat → List Int) (ts : Nat → Nat) : Nat → Nat → Nat
 | 0 => fun _ => 0
 | i + 1 => stepC K n ds (goC' K n ds ts i) (ts i)
def leC (K : MK) (n : Nat) (a : Nat → Nat) : Prop := ∀ t,t < n → a t ≤ lenC K t
def restC (K : MK) (n : Nat) (a : Nat → Nat) : Nat := sumC (fun t => lenC K t - a t) n
theorem pick_ok (hK : HOk K n ds) (hw0 : ∀ d : Nat,d < 9 → 0 ≤ at0 w0 d ∧ at0 w0 d ≤ 1000) (hI : HInv K n ds w0 a S) (t : Nat) : HInv K n ds w0 (stepC K n ds a t) (pickM K n t S) := by
 unfold stepC
 by_cases h : canC K n ds a t
 ·rw [if_pos h]
  exact step_ok hK hw0 hI h
 ·rw [if_neg h,pickM,if_neg fun e => h ((can_is hK hI t).1 e)]
  exact hI
theorem step_le (h : leC K n a) (t : Nat) : leC K n (stepC K n ds a t) := by
 unfold stepC
 by_cases hc : canC K n ds a t
 ·rw [if_pos hc]
  intro u hu
  unfold updA
  by_cases e : u = t
  ·rw [if_pos e,e]; exact hc.2.1
  ·rw [if_neg e]; exact h u hu
 ·rw [if_neg hc]; exact h
theorem step_yes {t : Nat} (hc : canC K n ds a t) : restC K n (stepC K n ds a t) + 1 = restC K n a := by
 unfold stepC
 rw [if_pos hc]
 have := sumC_upd (f := fun u => lenC K u - a u) (g := fun u => lenC K u - updA a t (a t + 1) u) hc.1 fun u _ hne => by
  show lenC K u - updA a t (a t + 1) u = _
  rw [updA,if_neg hne]
 have h2 := hc.2.1
 have e : updA a t (a t + 1) t = a t + 1 := by rw [updA,if_pos rfl]
 simp only [e] at this
 unfold restC
 omega
theorem step_no {t : Nat} (hc : ¬ canC K n ds a t) : stepC K n ds a t = a := by rw [stepC,if_neg hc]
theorem step_rest (t : Nat) : restC K n (stepC K n ds a t) ≤ restC K n a := by
 by_cases hc : canC K n ds a t
 ·have := step_yes hc; omega
 ·rw [step_no hc]; exact qf _
theorem sumC_zero {f : Nat → Nat} : ∀ {n : Nat},sumC f n = 0 → ∀ t,t < n → f t = 0
 | n + 1,h,t,ht => by
  rw [sumC] at h
  rcases qm t n with hn | hn
  ·exact sumC_zero (by omega) t hn
  ·have : t = n := by omega
   subst this
   omega
theorem sumC_pos {f : Nat → Nat} : ∀ {n : Nat},sumC f n ≠ 0 → ∃ t,t < n ∧ f t ≠ 0
 | 0,h => absurd rfl h
 | n + 1,h => by
  rw [sumC] at h
  by_cases e : f n = 0
  ·obtain ⟨t,ht,h'⟩ := sumC_pos (f := f) (n := n) (by omega)
   exact ⟨t,by omega,h'⟩
  ·exact ⟨n,by omega,e⟩
theorem some_can (hK : HOk K n ds) (hl : leC K n a) (hr : restC K n a ≠ 0) : ∃ t,canC K n ds a t := by
 by_cases ho : ∃ u,u < n ∧ opnC (ds u) (a u) ≠ []
 ·obtain ⟨u,hu,hne⟩ := ho
  have h1 : ¬(a u = 0 ∨ (a u - 1) % 5 = 0) := fun h => hne (opnC_nil h)
  refine ⟨u,hu, ?_,fun h2 h3 => absurd (.inr h3) h1⟩
  have := hl u hu
  rcases hK.pr u hu with hq | ⟨hq,_⟩
  ·have : lenC K u = 1 + 5 * (ds u).length := by rw [lenC,hq,cntP_len]
   omega
  ·have : lenC K u = 0 := by rw [lenC,hq]; rfl
   omega
 ·obtain ⟨t,ht,hne⟩ := sumC_pos hr
  refine ⟨t,ht,by omega,fun _ _ u hu h hh => ?_⟩
  have : opnC (ds u) (a u) = [] := Classical.byContradiction fun h => ho ⟨u,hu,h⟩
  rw [this] at hh
  cases hh
variable {ts : Nat → Nat}
theorem go_le : ∀ i,leC K n (goC' K n ds ts i)
 | 0 => fun t _ => Nat.zero_le _
 | i + 1 => step_le (go_le i) _
theorem go_round (hK : HOk K n ds) {i : Nat} (h : ∀ j,i ≤ j → ts j = j % 3) : restC K n (goC' K n ds ts (i + 3)) ≤ restC K n (goC' K n ds ts i) - 1 := by
 have m0 : restC K n (goC' K n ds ts (i + 1)) ≤ restC K n (goC' K n ds ts i) := step_rest _
 have m1 : restC K n (goC' K n ds ts (i + 2)) ≤ restC K n (goC' K n ds ts (i + 1)) := step_rest _
 have m2 : restC K n (goC' K n ds ts (i + 3)) ≤ restC K n (goC' K n ds ts (i + 2)) := step_rest _
 by_cases hr : restC K n (goC' K n ds ts i) = 0
 ·omega
 obtain ⟨t,ht⟩ := some_can hK (go_le i) hr
 have t3 : t < 3 := qu ht.1 hK.n3
 by_cases c0 : canC K n ds (goC' K n ds ts i) (ts i)
 ·have : restC K n (goC' K n ds ts (i + 1)) + 1 = _ := step_yes c0
  omega
 have e1 : goC' K n ds ts (i + 1) = goC' K n ds ts i := step_no c0
 by_cases c1 : canC K n ds (goC' K n ds ts (i + 1)) (ts (i + 1))
 ·have : restC K n (goC' K n ds ts (i + 2)) + 1 = _ := step_yes c1
  omega
 have e2 : goC' K n ds ts (i + 2) = goC' K n ds ts (i + 1) := step_no c1
 by_cases c2 : canC K n ds (goC' K n ds ts (i + 2)) (ts (i + 2))
 ·have : restC K n (goC' K n ds ts (i + 3)) + 1 = _ := step_yes c2
  omega
 rw [e2,e1,h (i + 2) (by omega)] at c2
 rw [e1,h (i + 1) (by omega)] at c1
 rw [h i (by omega)] at c0
 exfalso
 have : t = i % 3 ∨ t = (i + 1) % 3 ∨ t = (i + 2) % 3 := by omega
 rcases this with rfl | rfl | rfl
 ·exact c0 ht
 ·exact c1 ht
 ·exact c2 ht
theorem go_rounds (hK : HOk K n ds) {m : Nat} (h : ∀ j,m ≤ j → ts j = j % 3) : ∀ k,restC K n (goC' K n ds ts (m + 3 * k)) ≤ restC K n (goC' K n ds ts m) - k
 | 0 => qf _
 | k + 1 => by
  have h1 := go_rounds hK h k
  have h2 := go_round (K := K) (n := n) (ds := ds) (ts := ts) (i := m + 3 * k) hK fun j hj => h j (by omega)
  have e : m + 3 * (k + 1) = m + 3 * k + 3 := by omega
  rw [e]
  omega
theorem go_end (hK : HOk K n ds) {m : Nat} (h : ∀ j,m ≤ j → ts j = j % 3) : restC K n (goC' K n ds ts (m + 400)) = 0 := by
 have h1 := go_rounds (K := K) (n := n) (ds := ds) (ts := ts) hK h 133
 have h2 : restC K n (goC' K n ds ts m) ≤ n * 31 := sum_le fun t ht => by have := lenC_le hK ht; omega
 have h3 := hK.n3
 have h4 : n * 31 ≤ 3 * 31 := Nat.mul_le_mul_right 31 h3
 have h5 : restC K n (goC' K n ds ts (m + 400)) ≤ restC K n (goC' K n ds ts (m + 399)) := step_rest _
 have e : m + 3 * 133 = m + 399 := by omega
 rw [e] at h1
 omega
theorem end_ok (hK : HOk K n ds) (hI : HInv K n ds w0 a S) (hr : restC K n a = 0) :
 (∀ t,t < n → (S.th t).status = 1) ∧ ∀ d : Nat,d < 9 → at0 S.w d = at0 w0 d + (sumC (fun t => (ds t).count (d : Int)) n : Nat) := by
 have ha : ∀ t,t < n → a t = lenC K t := fun t ht => by
  have h1 := sumC_zero hr t ht
  have h2 := (hI.th t ht).le
  omega
 refine ⟨fun t ht => by rw [(hI.th t ht).status,if_pos (ha t ht)],fun d hd => ?_⟩
 rw [hI.cnt d hd,sumC_ext fun t ht => ?_]
 show cntC (ds t) (a t) d = (ds t).count (d : Int)
 rw [cntC,List.take_of_length_le]
 rw [ha t ht]
 rcases hK.pr t ht with hq | ⟨_,hq⟩
 ·rw [lenC,hq,cntP_len]; omega
 ·rw [hq]; exact Nat.zero_le _
end
end Go.Proofs.YtcholkmididfmaaGreatDoor

/- Three runs together: what holds of all picks. -/
import Derived.Test.YtmjjljngaefpaaaTh
namespace Go.Proofs.Ytmjjljngaefpaaa
open Go.RowKit Go.Am Go.Sy
open Go.IntKind (i64 u64)
set_option linter.unusedVariables false
theorem uwrap (x : Int) : u64.wrap x = uT x := by
 show x % (2 ^ 64 : Int) = x % 18446744073709551616
 rw [show (2 ^ 64 : Int) = 18446744073709551616 by decide]
theorem uT_b (x : Int) : 0 ≤ uT x ∧ uT x < 18446744073709551616 := ⟨Int.emod_nonneg _ (by decide),Int.emod_lt_of_pos _ (by decide)⟩
theorem utm (x : Int) {k : Int} (h0 : 0 < k) (h1 : k < 100) : i64.wrap ((uT x).tmod k) = uT x % k := by
 have hb := uT_b x
 have h2 := Int.emod_nonneg (uT x) (show k ≠ 0 by omega)
 have h3 := Int.emod_lt_of_pos (uT x) h0
 rw [Int.tmod_eq_emod_of_nonneg hb.1,wrap_id h2 (by omega)]
theorem utd (x : Int) {d k : Int} (d0 : 0 < d) (h0 : 0 < k) (h1 : k < 100) : i64.wrap ((uT ((uT x).tdiv d)).tmod k) = uT x / d % k := by
 have hb := uT_b x
 have q0 : 0 ≤ uT x / d := Int.ediv_nonneg hb.1 (by omega)
 have q1 : uT x / d ≤ uT x := Int.ediv_le_self _ hb.1
 have e : uT (uT x / d) = uT x / d := by
  show (uT x / d) % 18446744073709551616 = _
  exact Int.emod_eq_of_lt q0 (by omega)
 rw [Int.tdiv_eq_ediv_of_nonneg hb.1]
 have := utm (uT x / d) h0 h1
 rw [e] at this
 rw [e]
 exact this
section
variable {cl : Int} {l mv : List Int}
theorem pk_b (l : List Int) (i : Nat) : 0 ≤ pkT l i ∧ pkT l i < 3 := by
 unfold pkT
 split
 ·exact ⟨Int.emod_nonneg _ (by decide),Int.emod_lt_of_pos _ (by decide)⟩
 ·omega
theorem it_start : Start S00.1 := ⟨rfl,rfl,rfl⟩
theorem it_inv (hc : cl = 1 ∨ cl = 2) {i : Nat} (hi : i ≤ 1000) : Inv i (itT cl l mv i).1 := iter_inv hc (pk_b l) it_start i hi
theorem it_succ (i : Nat) : itT cl l mv (i + 1) = goT cl mv (pkT l) l.length i (itT cl l mv i) := rfl
theorem it_n : ∀ i,(itT cl l mv i).2 ≤ i
 | 0 => Nat.le_refl _
 | i + 1 => by
  have ih := it_n i
  rw [it_succ]
  unfold goT
  show (if _ then (itT cl l mv i).2 + 1 else (itT cl l mv i).2) ≤ i + 1
  split
  ·exact Nat.succ_le_succ ih
  ·exact Nat.le_succ_of_le ih
theorem it_s : ∀ i,(itT cl l mv i).1.sums.length ≤ i
 | 0 => Nat.le_refl _
 | i + 1 => by
  have ih := it_s i
  rw [it_succ]
  unfold goT pickS
  show (if _ then (itT cl l mv i).1.sums ++ [_] else (itT cl l mv i).1.sums).length ≤ i + 1
  split
  ·rw [List.length_append]; exact Nat.succ_le_succ ih
  ·omega
theorem ex_fresh {t : Int} {F : RM} (hF : FOk t F) : EX F := ⟨.inl hF.e,fun _ _ _ => hF.life,fun _ h => by rw [hF.b] at h; cases h⟩
theorem ex_mem {R : RM} {S : TS} (E : EX R) : EX (memR S R) := ⟨E.end_,E.new,E.busy⟩
theorem cur_ex {S : TS} {t : Int} {F : RM} {b : Bool} (hF : FOk t F) (hE : ∀ R,S.u t = some R → EX R) : EX (curR S t F b) := by
 unfold curR
 cases e : S.u t with
 | none => exact ex_fresh hF
 | some R =>
  show EX (if b = true ∧ R.end_ ≠ 0 then F else R)
  split
  ·exact ex_fresh hF
  ·exact hE R e
theorem cur_nx {n : Nat} {S : TS} {t : Int} {F : RM} {b : Bool} (I : Inv n S) (ht : 0 ≤ t ∧ t < 3) (hF : FOk t F) (hE : ∀ R,S.u t = some R → EX R) : NX (memR S (curR S t F b)) := by
 obtain ⟨⟨h,Q⟩,c1,c2,c3,c4,c5,c6⟩ := cur_ok (b := b) I ht hF
 obtain ⟨h',Q'⟩ := I.sys
 exact ⟨⟨n,c1.mem S.M,Q'.mi⟩,fun e => ⟨(c2 e).f,(c2 e).g,(c2 e).ne⟩,ex_mem (cur_ex hF hE)⟩
theorem nx_next {n : Nat} {S : TS} {t : Int} {F : RM} {b : Bool} (I : Inv n S) (ht : 0 ≤ t ∧ t < 3) (hF : FOk t F) (hE : ∀ R,S.u t = some R → EX R) : EX (nextR (memR S (curR S t F b))) := by
 obtain ⟨⟨h,Q⟩,c1,c2,c3,c4,c5,c6⟩ := cur_ok (b := b) I ht hF
 have Q1 := Q.memo (upd_self S.u t _) S.M
 rw [upd_upd] at Q1
 exact ex_next Q1 (upd_self _ _ _) (c1.mem S.M) (fun e => ⟨(c2 e).f,(c2 e).g,(c2 e).ne⟩) (ex_mem (cur_ex hF hE))
theorem it_ex (hc : cl = 1 ∨ cl = 2) : ∀ i,i ≤ 1000 → ∀ t R,(itT cl l mv i).1.u t = some R → EX R
 | 0,_,t,R,h => by cases h
 | i + 1,hi,t,R,h => by
  have ih := it_ex hc i (by omega)
  rw [it_succ] at h
  unfold goT pickS at h
  have h : upd (itT cl l mv i).1.u (pkT l i) _ t = some R := h
  by_cases e : t = pkT l i
  ·subst e
   rw [upd_self] at h
   cases h
   exact nx_next (it_inv hc (by omega)) (pk_b l i) (frsh_ok hc (pk_b l i)) (ih (pkT l i))
  ·unfold upd at h
   rw [if_neg e] at h
   exact ih t R h
theorem curT_nx (hc : cl = 1 ∨ cl = 2) {i : Nat} (hi : i ≤ 1000) : NX (curT cl l mv i) := cur_nx (it_inv hc hi) (pk_b l i) (frsh_ok hc (pk_b l i)) (it_ex hc i hi _)
theorem it_u (i : Nat) (t : Int) : (itT cl l mv (i + 1)).1.u t = if t = pkT l i then some (nextR (curT cl l mv i)) else (itT cl l mv i).1.u t := by
 rw [it_succ]
 unfold goT pickS
 show upd _ _ _ t = _
 unfold upd
 rfl
theorem it_M (i : Nat) : (itT cl l mv (i + 1)).1.M = (nextR (curT cl l mv i)).X := rfl
theorem it_sums (i : Nat) : (itT cl l mv (i + 1)).1.sums = if pkT l i = 0 ∧ (nextR (curT cl l mv i)).rd.length = 4 ∧ (curT cl l mv i).rd.length = 3 then (itT cl l mv i).1.sums ++ [sumT (nextR (curT cl l mv i)).rd] else (itT cl l mv i).1.sums := rfl
theorem it_cnt (i : Nat) : (itT cl l mv (i + 1)).2 = if startsT (itT cl l mv i).1 (pkT l i) (decide (i < l.length)) = true ∧ 0 < pkT l i ∧ mv ≠ [] then (itT cl l mv i).2 + 1 else (itT cl l mv i).2 := rfl
end
theorem mpE_mk {P : Prop} (h : P) : mpE P := ⟨rfl,rfl,rfl,rfl,rfl,h⟩
theorem meE_mk {M : XM} {P : Prop} (h : P) : meE M M P := ⟨rfl,rfl,rfl,rfl,rfl,rfl,rfl,h⟩
theorem txE_mk {R : XM} {P : Prop} (h : P) : txE R R P := mpE_mk ⟨rfl,rfl,rfl,rfl,rfl,rfl,rfl,rfl,rfl,rfl,rfl,rfl,rfl,rfl,rfl,rfl,rfl,rfl,rfl,rfl,rfl,rfl,rfl,rfl,rfl,rfl,rfl,rfl,rfl,h⟩
theorem ruP_mk {R : RM} {P : Prop} (h : P) : ruP (planL R) R R P := txE_mk ⟨rfl,rfl,rfl,rfl,rfl,h⟩
theorem rs_mk {a : Bool} {R : RM} {P : Prop} (h : P) : rs a R R P := by
 cases a
 ·exact ⟨rfl,h⟩
 ·exact ruP_mk h
theorem nQ_mk {R : RM} {P : Prop} (h : P) : nQ R R P := ⟨rfl,rfl,rfl,rfl,rfl,rfl,mpE_mk ⟨rfl,rfl,rfl,rfl,rfl,rfl,rfl,rfl,rfl,rfl,rfl,rfl,rfl,rfl,mpE_mk ⟨rfl,rfl,rfl,rfl,rfl,rfl,rfl,rfl,rfl,rfl,rfl,rfl,rfl,rfl,rfl,rfl,rfl,rfl,rfl,rfl,rfl,h⟩⟩⟩
theorem rs_mem {S : TS} {R : RM} {P : Prop} (h : P) : rs true R (memR S R) P := ruP_mk (R := memR S R) h
end Go.Proofs.Ytmjjljngaefpaaa
/- Three runs together: each cut is paid. Printed by a program (gen_tk.py). -/
namespace Go.Proofs.Ytmjjljngaefpaaa
open Go.RowKit Go.Am Go.Sy
open Go.IntKind (i64 u64)
set_option linter.unusedVariables false
section
variable {cl : Int} {l mv : List Int}
theorem ms1 {i n : Nat} (h : i < n + 300) (hn : n ≤ 200) : (600 - i) * 3 - 1 < (600 - i) * 3 := by omega
theorem ms2 {i n : Nat} (h : i < n + 300) (hn : n ≤ 200) : (600 - i) * 3 - 2 < (600 - i) * 3 - 1 := by omega
theorem ms3 {i n : Nat} (h : i < n + 300) (hn : n ≤ 200) : (600 - (i + 1)) * 3 < (600 - i) * 3 - 2 := by omega
theorem wr1 {n k : Nat} (h : n ≤ k) (hk : k ≤ 1000) : i64.wrap ((n : Int) + 1) = ((n + 1 : Nat) : Int) := by rw [wrap64 (by omega) (by omega)]; rfl
theorem leafB_ok {a b c : Bool} {x : LS} {t : Int} (h : StA cl l mv a b c x) (hi : x.i < l.length + 300) (ht : t = pkT l x.i) : leafB cl l mv a b c x t :=
 ⟨{ x with t := t },rfl,rfl,rfl,mpE_mk (meE_mk (rs_mk (rs_mk (rs_mk ⟨rfl,rfl,rfl,rfl,⟨⟨h.ok,h.i,h.u0,h.u1,h.u2,h.M,h.sums,h.n⟩,hi,ht⟩,ms1 hi h.ok.2.1,trivial⟩))))⟩
theorem head_ok {a b c : Bool} {x : LS} {fin : Prop} (h : StA cl l mv a b c x) (hf : x.i = l.length + 300 → fin) : headQ cl l mv a b c x fin := by
 have h2 := h.ok.2.1
 have hi := h.i
 have hw : i64.wrap ((l.length : Int) + 300) = ((l.length + 300 : Nat) : Int) := by rw [wrap64 (by omega) (by omega)]; rfl
 unfold headQ
 rw [hw]
 refine ⟨fun g => ⟨fun g2 => ⟨⟨by omega,of_decide_eq_true g2⟩, ?_⟩,fun g2 => ?_⟩,fun g => ?_⟩
 ·have g := of_decide_eq_true g
  have g2 := of_decide_eq_true g2
  refine leafB_ok h (by omega) ?_
  unfold tM pkT
  rw [if_pos (by omega),uwrap,utm _ (by decide) (by decide)]
 ·have g := of_decide_eq_true g
  have g2 := of_decide_eq_false g2
  refine leafB_ok h (by omega) ?_
  unfold pkT
  rw [if_neg (by omega),Int.tmod_eq_emod_of_nonneg (by omega)]
  omega
 ·have g := of_decide_eq_false g
  exact hf (by omega)
theorem wrap4 (a b c d : Int) : i64.wrap (i64.wrap (i64.wrap (i64.wrap (0 + a) + b) + c) + d) = i64.wrap (a + b + c + d) := by
 obtain ⟨k1,e1⟩ := wrap_mod (0 + a)
 obtain ⟨k2,e2⟩ := wrap_mod (i64.wrap (0 + a) + b)
 obtain ⟨k3,e3⟩ := wrap_mod (i64.wrap (i64.wrap (0 + a) + b) + c)
 exact wrap_eq (k := k1 + k2 + k3) (by omega)
theorem law_last (h : (cl = 1 ∨ cl = 2) ∧ l.length ≤ 200 ∧ mv.length ≤ 50) : (∀ s ∈ sumsG cl l mv,s = 40) ∧ (∀ t,0 ≤ t → t < 3 → ∃ R,(itT cl l mv (l.length + 300)).1.u t = some R ∧ R.end_ ≠ 0) ∧ (∀ t,0 ≤ t → t < 3 → at0 (itT cl l mv (l.length + 300)).1.M.W (11 + 2 * t) = 0) ∧
 i64.wrap (at0 (itT cl l mv (l.length + 300)).1.M.W 26 + at0 (itT cl l mv (l.length + 300)).1.M.W 28 + at0 (itT cl l mv (l.length + 300)).1.M.W 30 + at0 (itT cl l mv (l.length + 300)).1.M.W 32) = 40 := law_end (c := cl) (moves := mv) (pk := pkT l) (L := l.length) (S0 := S00) h.1 (pk_b l) (fun i hi => by unfold pkT; rw [if_neg (by omega)]) it_start h.2.1
theorem sums_40 (h : (cl = 1 ∨ cl = 2) ∧ l.length ≤ 200 ∧ mv.length ≤ 50) : ∀ s ∈ sumsG cl l mv,s = 40 := (law_last h).1
theorem all_there (h : (cl = 1 ∨ cl = 2) ∧ l.length ≤ 200 ∧ mv.length ≤ 50) : ∀ t,0 ≤ t → t < 3 → ∃ R,(itT cl l mv (l.length + 300)).1.u t = some R ∧ R.end_ ≠ 0 := (law_last h).2.1
theorem no_fin {a b c : Bool} {x : LS} (h : StA cl l mv a b c x) (hn : a = false ∨ b = false ∨ c = false) (hi : x.i = l.length + 300) : noQ := by
 exfalso
 have ha := all_there h.ok
 have h0 := h.u0
 have h1 := h.u1
 have h2 := h.u2
 rw [hi] at h0 h1 h2
 rcases hn with e | e | e
 ·subst e
  obtain ⟨R,k,_⟩ := ha 0 (by decide) (by decide)
  rw [k] at h0
  cases h0
 ·subst e
  obtain ⟨R,k,_⟩ := ha 1 (by decide) (by decide)
  rw [k] at h1
  cases h1
 ·subst e
  obtain ⟨R,k,_⟩ := ha 2 (by decide) (by decide)
  rw [k] at h2
  cases h2
theorem fin_ok {x : LS} (h : StA cl l mv true true true x) (hi : x.i = l.length + 300) : finQ cl l mv x := by
 obtain ⟨k1,k2,k3,k4⟩ := law_last h.ok
 have I := it_inv (l := l) (mv := mv) h.ok.1 (i := x.i) (by have := h.ok.2.1; omega)
 obtain ⟨hh,Q⟩ := I.sys
 have hW : x.M.W.length = 34 := by rw [← h.M]; exact Q.mi.len
 have e0 := h.u0
 have e1 := h.u1
 have e2 := h.u2
 have eM := h.M
 have es := h.sums
 rw [hi] at e0 e1 e2 eM es
 have en : ∀ (t : Int) (R : RM),0 ≤ t → t < 3 → (itT cl l mv (l.length + 300)).1.u t = some R → R.end_ ≠ 0 := fun t R t0 t3 e => by
  obtain ⟨R',r1,r2⟩ := k2 t t0 t3
  have r1 : (itT cl l mv (l.length + 300)).1.u t = some R' := r1
  rw [e] at r1
  cases r1
  exact r2
 have mk : ∀ t : Int,0 ≤ t → t < 3 → at0 x.M.W (11 + 2 * t) = 0 := fun t t0 t3 => by rw [← eM]; exact k3 t t0 t3
 have m0 := mk 0 (by decide) (by decide)
 have m1 := mk 1 (by decide) (by decide)
 have m2 := mk 2 (by decide) (by decide)
 have nA := en 0 x.A (by decide) (by decide) e0
 have nB := en 1 x.B (by decide) (by decide) e1
 have nC := en 2 x.C (by decide) (by decide) e2
 have pk : ∀ k : Int,0 ≤ k → k < 34 → peekD.pre (Mw.mk x.M.W,k,()) := fun k a b => ⟨a,by show k < (x.M.W.length : Int); rw [hW]; exact b⟩
 have z : ∀ {R : RM} {P : Prop},R.end_ ≠ 0 → ((R.end_ == 0) = true → P) := fun hne h => absurd (eq_of_beq h) hne
 have zz : ∀ {v : Int} {P : Prop},v = 0 → ((v != 0) = true → P) := fun hv h => by rw [hv] at h; cases h
 refine ⟨⟨rfl,by decide,by decide⟩,pk _ (by decide) (by decide),⟨rfl,by decide,by decide⟩,pk _ (by decide) (by decide),⟨rfl,by decide,by decide⟩,pk _ (by decide) (by decide),⟨rfl,by decide,by decide⟩,pk _ (by decide) (by decide),z nA,fun _ => ⟨⟨rfl,by decide,by decide,rfl⟩,pk _ (by decide) (by decide),zz m0,fun _ => ⟨z nB,fun _ => ⟨⟨rfl,by decide,by decide,rfl⟩,pk _ (by decide) (by decide),zz m1,fun _ => ⟨z nC,fun _ => ⟨⟨rfl,by decide,by decide,rfl⟩,pk _ (by decide) (by decide),zz m2,fun _ => ⟨es.symm, ?_,trivial⟩⟩⟩⟩⟩⟩⟩
 have k4 : i64.wrap (at0 (itT cl l mv (l.length + 300)).1.M.W 26 + at0 (itT cl l mv (l.length + 300)).1.M.W 28 + at0 (itT cl l mv (l.length + 300)).1.M.W 30 + at0 (itT cl l mv (l.length + 300)).1.M.W 32) = 40 := k4
 rw [eM] at k4
 have e4 : i64.wrap (i64.wrap (i64.wrap (i64.wrap (0 + at0 x.M.W 26) + at0 x.M.W 28) + at0 x.M.W 30) + at0 x.M.W 32) = 40 := by
  rw [← k4]
  exact wrap4 _ _ _ _
 rw [e4]
 rfl
theorem sum4 {rd : List Wo} (h : rd.length = 4) : s4 rd = sumT rd := by
 match rd,h with
 | [a,b,c,d],_ => rfl
theorem emp_eq {y : RM} (h1 : y.X.rs = []) (h2 : y.X.ws = []) (h3 : y.X.rows = []) (h4 : y.X.tk = []) (h5 : y.X.asked = 0) : emp y = y := by
 obtain ⟨⟨code,th,c,life,job,part,i,at_,row,seen,val,value,cause,stamp,made,bk,bst,bse,bsp,ph,rs,ws,asked,rows,tk,W,steps,lk,la,lv,ls,ld,ybk,ybst,ybse,ybsp⟩,mv,f,g,m,i2,busy,end_,rd⟩ := y
 obtain rfl : rs = [] := h1
 obtain rfl : ws = [] := h2
 obtain rfl : rows = [] := h3
 obtain rfl : tk = [] := h4
 obtain rfl : asked = 0 := h5
 rfl
theorem aft_sum {t : Nat} {i : Nat} {R y : RM} {sums : List Int} {L : List Int → Prop} (hR : R = curT cl l mv i) (hy : y = nextR R) (ht : (t : Int) = pkT l i) (hs : sums = (itT cl l mv i).1.sums) (hi : i ≤ 600) (hL : ∀ s,s = (itT cl l mv (i + 1)).1.sums → L s) : aftT t R y sums L := by
 have e := it_sums (cl := cl) (l := l) (mv := mv) i
 rw [← hR,← hy,← hs,← ht] at e
 have hle := it_s (cl := cl) (l := l) (mv := mv) i
 rw [← hs] at hle
 cases t with
 | succ t => exact hL _ (by rw [e,if_neg (fun h => absurd h.1 (by omega))])
 | zero =>
  refine ⟨fun g => ⟨fun g2 => ?_,fun g2 => hL _ ?_⟩,fun g => hL _ ?_⟩
  ·have g := eq_of_beq g
   have g2 := eq_of_beq g2
   have g4 : y.rd.length = 4 := by omega
   have b : ∀ k : Int,0 ≤ k → k < 4 → rdB4 y.rd k := fun k a b => ⟨a,by rw [g4]; exact b⟩
   refine ⟨b 0 (by decide) (by decide),b 0 (by decide) (by decide),b 1 (by decide) (by decide),b 1 (by decide) (by decide),b 2 (by decide) (by decide),b 2 (by decide) (by decide),b 3 (by decide) (by decide),b 3 (by decide) (by decide), ?_,hL _ ?_⟩
   ·show (sums.length + 1) * 8 ≤ 140737488355328
    omega
   ·rw [e,if_pos ⟨rfl,g4,by omega⟩,sum4 g4]
  ·rw [e,if_neg (fun h => by rw [h.2.2] at g2; exact absurd g2 (by decide))]
  ·rw [e,if_neg (fun h => by rw [h.2.1] at g; exact absurd g (by decide))]
theorem pick_ok {t : Nat} {R : RM} {x : LS} {L : QT → XM → List Int → Prop} (hc : cl = 1 ∨ cl = 2) (hi : x.i ≤ 600) (hR : R = curT cl l mv x.i) (ht : (t : Int) = pkT l x.i) (hs : x.sums = (itT cl l mv x.i).1.sums)
 (hL : ∀ y,y = nextR R → ∀ q : QT,(∀ P,P → q y P) → ∀ s,s = (itT cl l mv (x.i + 1)).1.sums → L q y.X s) : pickQ t R x L := by
 have nx : NX R := by rw [hR]; exact curT_nx hc (by omega)
 have go : ∀ y,y = nextR R → ∀ q : QT,(∀ P,P → q y P) → aftT t R y x.sums (L q y.X) := fun y hy q hq => aft_sum hR hy ht hs hi (hL y hy q hq)
 refine ⟨R,nQ_mk ⟨nx,fun y hy => go y hy _ fun P h => rs_mk h,fun y hy => go y hy _ fun P h => rs_mk h,fun y hy => ?_,trivial⟩⟩
 obtain ⟨h0,h1,h2,h3,h4,h5⟩ := hy
 rw [emp_eq h1 h2 h3 h4 h5]
 exact go y h0 _ fun P h => rs_mk h
theorem pl_new (n : Nat) (t : Nat) (h : (decide (0 < (t : Int)) && !mv.isEmpty) = false) (S : TS) : plR = planL (memR S (freshF cl mv n (t : Int))) := by
 unfold planL
 show plR = bif (decide (0 < (t : Int)) && !mv.isEmpty) then _ else _
 rw [h]
 rfl
theorem pl_mov (n : Nat) (t : Nat) (h : (decide (0 < (t : Int)) && !mv.isEmpty) = true) (S : TS) : [⟨0,mvF (mvK mv n),0⟩,⟨0,mvG (mvK mv n),0⟩,⟨1,mvF (mvK mv n),-(mvK mv n / 12 % 5)⟩,⟨1,mvG (mvK mv n),mvK mv n / 12 % 5⟩] = planL (memR S (freshF cl mv n (t : Int))) := by
 unfold planL
 show _ = bif (decide (0 < (t : Int)) && !mv.isEmpty) then _ else _
 rw [h]
 rfl
theorem new_q {n t : Nat} {S : TS} {p : List Op} (h : p = planL (memR S (freshF cl mv n (t : Int)))) : ∀ P,P → ruP p (newR cl t) (memR S (freshF cl mv n (t : Int))) P := fun P hP => by
 subst h
 exact ruP_mk (R := memR S (freshF cl mv n (t : Int))) hP
theorem beg_ok {t : Nat} {P : Prop} (hc : cl = 1 ∨ cl = 2) (ht : t < 3) (h : P) : begQ cl l mv t P := ⟨⟨rfl,by show (0 : Int) ≤ (t : Int); omega,by show (t : Int) < 3; omega,rfl⟩,fun g => absurd (of_decide_eq_true g) (by omega),fun _ => ⟨fun g => absurd (of_decide_eq_true g) (by omega),fun _ => h⟩⟩
theorem starts_new {i : Nat} {t : Nat} (ht : (t : Int) = pkT l i) (hs : (itT cl l mv i).1.u (t : Int) = none ∨ ∃ R,(itT cl l mv i).1.u (t : Int) = some R ∧ R.end_ ≠ 0 ∧ i < l.length) : curT cl l mv i = memR (itT cl l mv i).1 (freshF cl mv (itT cl l mv i).2 (t : Int)) ∧ startsT (itT cl l mv i).1 (t : Int) (decide (i < l.length)) = true := by
 unfold curT curR startsT
 rw [← ht]
 rcases hs with e | ⟨R,e,e2,e3⟩
 ·rw [e]
  exact ⟨rfl,rfl⟩
 ·rw [e]
  refine ⟨?_, ?_⟩
  ·show memR _ (if decide (i < l.length) = true ∧ R.end_ ≠ 0 then _ else R) = _
   rw [if_pos ⟨decide_eq_true e3,e2⟩]
  ·show (decide (i < l.length) && R.end_ != 0) = true
   rw [decide_eq_true e3,Bool.true_and]
   simpa using e2
theorem starts_old {i : Nat} {t : Nat} {R : RM} (ht : (t : Int) = pkT l i) (e : (itT cl l mv i).1.u (t : Int) = some R) (h : R.end_ = 0 ∨ ¬ i < l.length) : curT cl l mv i = memR (itT cl l mv i).1 R ∧ startsT (itT cl l mv i).1 (t : Int) (decide (i < l.length)) = false := by
 unfold curT curR startsT
 rw [← ht,e]
 refine ⟨?_, ?_⟩
 ·show memR _ (if decide (i < l.length) = true ∧ R.end_ ≠ 0 then _ else R) = _
  rw [if_neg (fun g => by
   rcases h with h | h
   ·exact g.2 h
   ·exact h (of_decide_eq_true g.1))]
 ·show (decide (i < l.length) && R.end_ != 0) = false
  rcases h with h | h
  ·rw [h]
   cases decide (i < l.length) <;> rfl
  ·rw [decide_eq_false h]
   rfl
theorem mvu_eq {x : LS} (hn : mv.length ≠ 0) : mvU mv x = mvK mv x.n := by
 unfold mvU mvK
 rw [uwrap,Int.tmod_eq_emod_of_nonneg (by omega)]
 rfl
theorem sta_ok {t : Nat} {L : QT → Int → Prop} {x : LS} (hok : (cl = 1 ∨ cl = 2) ∧ l.length ≤ 200 ∧ mv.length ≤ 50) (hi : x.i ≤ 600) (ht3 : t < 3) (ht : (t : Int) = pkT l x.i) (hn : (itT cl l mv x.i).2 = x.n) (hs : (itT cl l mv x.i).1.u (t : Int) = none ∨ ∃ R,(itT cl l mv x.i).1.u (t : Int) = some R ∧ R.end_ ≠ 0 ∧ x.i < l.length)
 (hL : ∀ q : QT,(∀ P,P → q (curT cl l mv x.i) P) → ∀ n : Int,n = ((itT cl l mv (x.i + 1)).2 : Int) → L q n) : staQ cl l mv t L x := by
 obtain ⟨h1,h2⟩ := starts_new ht hs
 have hcnt := it_cnt (cl := cl) (l := l) (mv := mv) x.i
 rw [← ht,h2,hn] at hcnt
 rw [hn] at h1
 have hle := it_n (cl := cl) (l := l) (mv := mv) x.i
 rw [hn] at hle
 have rea : ((decide (0 < (t : Int)) && !mv.isEmpty) = false) → (¬ (0 < (t : Int) ∧ mv ≠ [])) → reaQ cl l mv t L x := fun hb hno => beg_ok hok.1 ht3 (hL _ (by rw [h1]; exact new_q (pl_new _ _ hb _)) _ (by rw [hcnt,if_neg (fun h => hno h.2)]))
 cases t with
 | zero => exact rea rfl (fun h => absurd h.1 (by decide))
 | succ t =>
  refine ⟨fun g => ?_,fun g => ?_⟩
  ·have g := of_decide_eq_true g
   have hne : mv ≠ [] := fun e => by rw [e] at g; exact absurd g (by decide)
   have hl : mv.length ≠ 0 := by omega
   have hb : (decide (0 < ((t + 1 : Nat) : Int)) && !mv.isEmpty) = true := by
    rw [decide_eq_true (by omega),Bool.true_and]
    cases mv with
    | nil => exact absurd rfl hne
    | cons _ _ => rfl
   have pl := pl_mov (cl := cl) (mv := mv) x.n (t + 1) hb (itT cl l mv x.i).1
   have eU := mvu_eq (x := x) hl
   have ef : mvf mv x = mvF (mvK mv x.n) := by
    unfold mvf mvF
    rw [eU]
    exact utm _ (by decide) (by decide)
   have eg : mvg mv x = mvK mv x.n / 4 % 3 := by
    unfold mvg
    rw [eU,uwrap]
    exact utd _ (by decide) (by decide) (by decide)
   have em : mvm mv x = mvK mv x.n / 12 % 5 := by
    unfold mvm
    rw [eU,uwrap]
    exact utd _ (by decide) (by decide) (by decide)
   have m0 : 0 ≤ mvm mv x ∧ mvm mv x < 5 := by rw [em]; omega
   have g0 : 0 ≤ mvg mv x ∧ mvg mv x < 3 := by rw [eg]; omega
   have en : i64.wrap (0 - mvm mv x) = -(mvK mv x.n / 12 % 5) := by rw [wrap64 (by omega) (by omega),← em]; omega
   have cnt : i64.wrap ((x.n : Int) + 1) = ((itT cl l mv (x.i + 1)).2 : Int) := by rw [hcnt,if_pos ⟨rfl,by omega,hne⟩,wr1 hle (by omega)]
   have tm : (x.n : Int).tmod (mv.length : Int) = (x.n : Int) % (mv.length : Int) := Int.tmod_eq_emod_of_nonneg (by omega)
   refine ⟨by omega,⟨by rw [tm]; exact Int.emod_nonneg _ (by omega),by rw [tm]; exact Int.emod_lt_of_pos _ g⟩,fun k => ?_,fun k => ?_⟩
   ·have k := of_decide_eq_true k
    refine beg_ok hok.1 ht3 (hL _ ?_ _ cnt)
    rw [h1]
    refine new_q ?_
    rw [← pl]
    unfold plM
    have e2 : i64.wrap (mvg mv x + 1) = mvG (mvK mv x.n) := by
     rw [wrap64 (by omega) (by omega)]
     unfold mvG
     rw [← eg,if_pos (by rw [ef] at k; exact k)]
    rw [ef,e2,en,em]
   ·have k := of_decide_eq_false k
    refine beg_ok hok.1 ht3 (hL _ ?_ _ cnt)
    rw [h1]
    refine new_q ?_
    rw [← pl]
    unfold plM
    have e2 : mvg mv x = mvG (mvK mv x.n) := by
     unfold mvG
     rw [← eg,if_neg (by rw [ef] at k; exact k)]
    rw [ef,e2,en,em]
  ·have g := of_decide_eq_false g
   have hl : mv.length = 0 := by omega
   have hnil : mv = [] := List.eq_nil_of_length_eq_zero hl
   exact rea (by rw [hnil]; exact Bool.and_false _) (fun h => h.2 hnil)
theorem had_ok {t : Nat} {R : RM} {L : QT → Int → Prop} {x : LS} (hok : (cl = 1 ∨ cl = 2) ∧ l.length ≤ 200 ∧ mv.length ≤ 50) (hi : x.i ≤ 600) (ht3 : t < 3) (ht : (t : Int) = pkT l x.i) (hn : (itT cl l mv x.i).2 = x.n) (hR : (itT cl l mv x.i).1.u (t : Int) = some R)
 (hL : ∀ q : QT,(∀ P,P → q (curT cl l mv x.i) P) → ∀ n : Int,n = ((itT cl l mv (x.i + 1)).2 : Int) → L q n) : hadQ cl l mv t R L x := by
 have old : (R.end_ = 0 ∨ ¬ x.i < l.length) → L (rs true R) (x.n : Int) := fun h => by
  obtain ⟨h1,h2⟩ := starts_old ht hR h
  refine hL _ (fun P hP => by rw [h1]; exact rs_mem hP) _ ?_
  have hcnt := it_cnt (cl := cl) (l := l) (mv := mv) x.i
  rw [← ht,h2,if_neg (fun h => by cases h.1),hn] at hcnt
  rw [hcnt]
 refine ⟨fun g => ⟨fun g2 => ?_,fun g2 => old (.inr ?_)⟩,fun g => old (.inl ?_)⟩
 ·have g2 := of_decide_eq_true g2
  exact sta_ok hok hi ht3 ht hn (.inr ⟨R,hR,by simpa using g,by omega⟩) hL
 ·have := of_decide_eq_false g2
  omega
 ·simpa using g
theorem leafT0 {a b c : Bool} {x : LS} {q : QT} {n : Int} (h : StB cl l mv a b c x) (ht : x.t = 0) (hq : ∀ P,P → q (curT cl l mv x.i) P) (hn : n = ((itT cl l mv (x.i + 1)).2 : Int)) : leafT cl l mv 0 true b c q (rs b x.B) (rs c x.C) x n := by
 have hp : x.t = pkT l x.i := h.t
 refine ⟨{ x with A := curT cl l mv x.i,n := (itT cl l mv (x.i + 1)).2 },rfl,rfl,rfl,mpE_mk ?_⟩
 have hM : x.M = (itT cl l mv x.i).1.M := h.st.M.symm
 have me : ∀ P,P → meE x.M (curT cl l mv x.i).X P := fun P hP => by
  rw [hM]
  exact ⟨rfl,rfl,rfl,rfl,rfl,rfl,rfl,hP⟩
 exact me _ (hq _ (rs_mk (rs_mk ⟨rfl,hn,rfl,rfl,⟨h.st.ok,h.i,by rw [ht] at hp; exact hp,rfl,h.st.u1,h.st.u2,h.st.sums,rfl⟩,ms2 h.i h.st.ok.2.1,trivial⟩)))
theorem leafA0 {a b c : Bool} {x : LS} {q : QT} {R y : RM} {s : List Int} (h : StT cl l mv 0 true b c x) (hR : R = curT cl l mv x.i) (hy : y = nextR R) (hq : ∀ P,P → q y P) (hs : s = (itT cl l mv (x.i + 1)).1.sums) : leafA cl l mv true b c q (rs b x.B) (rs c x.C) y.X s (x.n : Int) (i64.wrap ((x.i : Int) + 1)) ((600 - x.i) * 3 - 2) :=
 ⟨{ x with A := y,M := y.X,sums := s,i := x.i + 1 },rfl,rfl,rfl,mpE_mk (meE_mk (hq _ (rs_mk (rs_mk ⟨rfl,rfl,wr1 (k := 600) (by have := h.i; have := h.ok.2.1; omega) (by decide),⟨h.ok,by have := h.i; exact this,by show (itT cl l mv (x.i + 1)).1.u 0 = some y; rw [it_u,if_pos (show (0 : Int) = pkT l x.i from h.tt),hy,hR],by show (itT cl l mv (x.i + 1)).1.u 1 = opt b x.B; rw [it_u,if_neg (by rw [← h.tt]; decide)]; exact h.u1,by show (itT cl l mv (x.i + 1)).1.u 2 = opt c x.C; rw [it_u,if_neg (by rw [← h.tt]; decide)]; exact h.u2,by show (itT cl l mv (x.i + 1)).1.M = y.X; rw [it_M,hy,hR],hs.symm,h.n⟩,ms3 h.i h.ok.2.1,trivial⟩))))⟩
theorem leafT1 {a b c : Bool} {x : LS} {q : QT} {n : Int} (h : StB cl l mv a b c x) (ht : x.t = 1) (hq : ∀ P,P → q (curT cl l mv x.i) P) (hn : n = ((itT cl l mv (x.i + 1)).2 : Int)) : leafT cl l mv 1 a true c (rs a x.A) q (rs c x.C) x n := by
 have hp : x.t = pkT l x.i := h.t
 refine ⟨{ x with B := curT cl l mv x.i,n := (itT cl l mv (x.i + 1)).2 },rfl,rfl,rfl,mpE_mk ?_⟩
 have hM : x.M = (itT cl l mv x.i).1.M := h.st.M.symm
 have me : ∀ P,P → meE x.M (curT cl l mv x.i).X P := fun P hP => by
  rw [hM]
  exact ⟨rfl,rfl,rfl,rfl,rfl,rfl,rfl,hP⟩
 exact me _ (rs_mk (hq _ (rs_mk ⟨rfl,hn,rfl,rfl,⟨h.st.ok,h.i,by rw [ht] at hp; exact hp,h.st.u0,rfl,h.st.u2,h.st.sums,rfl⟩,ms2 h.i h.st.ok.2.1,trivial⟩)))
theorem leafA1 {a b c : Bool} {x : LS} {q : QT} {R y : RM} {s : List Int} (h : StT cl l mv 1 a true c x) (hR : R = curT cl l mv x.i) (hy : y = nextR R) (hq : ∀ P,P → q y P) (hs : s = (itT cl l mv (x.i + 1)).1.sums) : leafA cl l mv a true c (rs a x.A) q (rs c x.C) y.X s (x.n : Int) (i64.wrap ((x.i : Int) + 1)) ((600 - x.i) * 3 - 2) :=
 ⟨{ x with B := y,M := y.X,sums := s,i := x.i + 1 },rfl,rfl,rfl,mpE_mk (meE_mk (rs_mk (hq _ (rs_mk ⟨rfl,rfl,wr1 (k := 600) (by have := h.i; have := h.ok.2.1; omega) (by decide),⟨h.ok,by have := h.i; exact this,by show (itT cl l mv (x.i + 1)).1.u 0 = opt a x.A; rw [it_u,if_neg (by rw [← h.tt]; decide)]; exact h.u0,by show (itT cl l mv (x.i + 1)).1.u 1 = some y; rw [it_u,if_pos (show (1 : Int) = pkT l x.i from h.tt),hy,hR],by show (itT cl l mv (x.i + 1)).1.u 2 = opt c x.C; rw [it_u,if_neg (by rw [← h.tt]; decide)]; exact h.u2,by show (itT cl l mv (x.i + 1)).1.M = y.X; rw [it_M,hy,hR],hs.symm,h.n⟩,ms3 h.i h.ok.2.1,trivial⟩))))⟩
theorem leafT2 {a b c : Bool} {x : LS} {q : QT} {n : Int} (h : StB cl l mv a b c x) (ht : x.t = 2) (hq : ∀ P,P → q (curT cl l mv x.i) P) (hn : n = ((itT cl l mv (x.i + 1)).2 : Int)) : leafT cl l mv 2 a b true (rs a x.A) (rs b x.B) q x n := by
 have hp : x.t = pkT l x.i := h.t
 refine ⟨{ x with C := curT cl l mv x.i,n := (itT cl l mv (x.i + 1)).2 },rfl,rfl,rfl,mpE_mk ?_⟩
 have hM : x.M = (itT cl l mv x.i).1.M := h.st.M.symm
 have me : ∀ P,P → meE x.M (curT cl l mv x.i).X P := fun P hP => by
  rw [hM]
  exact ⟨rfl,rfl,rfl,rfl,rfl,rfl,rfl,hP⟩
 exact me _ (rs_mk (rs_mk (hq _ ⟨rfl,hn,rfl,rfl,⟨h.st.ok,h.i,by rw [ht] at hp; exact hp,h.st.u0,h.st.u1,rfl,h.st.sums,rfl⟩,ms2 h.i h.st.ok.2.1,trivial⟩)))
theorem leafA2 {a b c : Bool} {x : LS} {q : QT} {R y : RM} {s : List Int} (h : StT cl l mv 2 a b true x) (hR : R = curT cl l mv x.i) (hy : y = nextR R) (hq : ∀ P,P → q y P) (hs : s = (itT cl l mv (x.i + 1)).1.sums) : leafA cl l mv a b true (rs a x.A) (rs b x.B) q y.X s (x.n : Int) (i64.wrap ((x.i : Int) + 1)) ((600 - x.i) * 3 - 2) :=
 ⟨{ x with C := y,M := y.X,sums := s,i := x.i + 1 },rfl,rfl,rfl,mpE_mk (meE_mk (rs_mk (rs_mk (hq _ ⟨rfl,rfl,wr1 (k := 600) (by have := h.i; have := h.ok.2.1; omega) (by decide),⟨h.ok,by have := h.i; exact this,by show (itT cl l mv (x.i + 1)).1.u 0 = opt a x.A; rw [it_u,if_neg (by rw [← h.tt]; decide)]; exact h.u0,by show (itT cl l mv (x.i + 1)).1.u 1 = opt b x.B; rw [it_u,if_neg (by rw [← h.tt]; decide)]; exact h.u1,by show (itT cl l mv (x.i + 1)).1.u 2 = some y; rw [it_u,if_pos (show (2 : Int) = pkT l x.i from h.tt),hy,hR],by show (itT cl l mv (x.i + 1)).1.M = y.X; rw [it_M,hy,hR],hs.symm,h.n⟩,ms3 h.i h.ok.2.1,trivial⟩))))⟩
end
end Go.Proofs.Ytmjjljngaefpaaa

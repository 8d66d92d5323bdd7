/- Three runs by picks: what holds behind each of them. -/
import Derived.Test.YtmjjljngaefpaaaRv
namespace Go.Proofs.Ytmjjljngaefpaaa
open Go.RowKit Go.Am Go.Sy
open Go.IntKind (i64 u64)
set_option linter.unusedVariables false
structure TS where
 u : US
 M : XM
 sums : List Int
structure FOk (t : Int) (F : RM) : Prop where
 e : F.end_ = 0
 b : F.busy = false
 i : F.i = 0
 tk : F.X.tk = []
 rows : F.X.rows = []
 job : F.X.job = 0
 life : F.X.life = 0
 ph : F.X.ph = false
 rd : F.rd = []
 sb : SB F.X
 th : F.X.th = t
 pl : F.mv = true → PlOk F
 t0 : t = 0 → F.mv = false
def curR (S : TS) (t : Int) (F : RM) (b : Bool) : RM := match S.u t with | none => F | some R => if b = true ∧ R.end_ ≠ 0 then F else R
def sumT (rd : List Wo) : Int := rd.foldl (fun s w => i64.wrap (s + w.vl)) 0
def memR (S : TS) (R : RM) : RM := { R with X := memX R.X S.M }
def pickS (S : TS) (t : Int) (F : RM) (b : Bool) : TS := ⟨upd S.u t (nextR (memR S (curR S t F b))),(nextR (memR S (curR S t F b))).X,if t = 0 ∧ (nextR (memR S (curR S t F b))).rd.length = 4 ∧ (curR S t F b).rd.length = 3 then S.sums ++ [sumT (nextR (memR S (curR S t F b))).rd] else S.sums⟩
structure Inv (n : Nat) (S : TS) : Prop where
 sys : ∃ h,Sys n S.M.W h S.u
 ri : ∀ t R,S.u t = some R → RI n R ∧ (R.mv = true → PlOk R) ∧ (t = 0 → R.mv = false)
 mks : ∀ t,0 ≤ t → t < 3 → at0 S.M.W (11 + 2 * t) = 0 ∨ ∃ R,S.u t = some R ∧ R.X.ph = true
 ov : ∀ t R,S.u t = some R → R.X.job = 0 → R.X.ph = false
 su : ∀ s ∈ S.sums,s = 40
variable {n : Nat} {h : Int → Int → Int} {u : US} {t : Int} {R : RM} {W : List Int} {S : TS} {F : RM} {b : Bool}
theorem over_job (I : RI n R) (he : R.end_ ≠ 0) : R.X.job = 0 := by
 cases I with
 | over _ a _ => exact a.1
 | new a => exact absurd a he
 | idle a => exact absurd a he
 | beg a => exact absurd a he
 | read a => exact absurd a he
 | com a => exact absurd a he
 | back a => exact absurd a he
theorem busy_ai (I : RI n R) (hb : R.busy = true) (he : R.end_ = 0) : AI n R.X ∧ R.X.job ≠ 0 := by
 cases I with
 | over a _ _ => exact absurd he a
 | new _ a => rw [hb] at a; cases a
 | idle _ a => rw [hb] at a; cases a
 | beg _ _ _ a b => exact ⟨a,by rw [b]; decide⟩
 | read _ _ _ _ _ a b => exact ⟨a,by rw [b]; decide⟩
 | com _ _ _ a b => exact ⟨a,by rw [b]; decide⟩
 | back _ _ _ a b => exact ⟨a,by rw [b]; decide⟩
theorem ask_ph (jp : R.X.job = 0 → R.X.ph = false) (I : RI n R) (hR : R.end_ = 0) : (askL R).X.ph = R.X.ph ∧ (askL R).X.th = R.X.th := by
 unfold askL
 split
 ·exact ⟨rfl,rfl⟩
 ·rename_i hb
  split
  ·rename_i hi
   refine ⟨?_,rfl⟩
   have hj : R.X.job = 0 := by
    cases I with
    | new _ _ _ _ a => exact a
    | idle _ _ a => omega
    | over a => exact absurd hR a
    | beg _ a => exact absurd a hb
    | read _ a => exact absurd a hb
    | com _ a => exact absurd a hb
    | back _ a => exact absurd a hb
   exact (jp hj).symm
  ·split
   ·unfold readX
    cases hasB R.X.ws (26 + 2 * pAt R) <;> exact ⟨rfl,rfl⟩
   ·split <;> exact ⟨rfl,rfl⟩
theorem stepR_X : (stepR R).X = stepX R.X := by
 unfold stepR doneR
 split
 ·split <;> rfl
 ·split <;> rfl
theorem next_mk (Q : Sys n R.X.W h u) (hR : u t = some R) (I : RI n R) (hp : R.mv = true → PlOk R) (jp : R.X.job = 0 → R.X.ph = false) (hm : R.X.ph = true ∨ at0 R.X.W (11 + 2 * R.X.th) = 0) : Mk R.X (nextR R).X := by
 unfold nextR
 by_cases he : R.end_ = 0
 ·rw [if_pos he]
  obtain ⟨q1,q2,q3,q4,q5⟩ := run_ask Q hR I he hp
  obtain ⟨a1,a2⟩ := ask_ph jp I he
  obtain ⟨b1,b2⟩ := busy_ai q2 q3 q4
  have := step_mk b1 (by rw [q5]; exact Q.mi) b2 (by rw [a1,q5,a2]; exact hm)
  rw [stepR_X]
  unfold Mk at this ⊢
  rw [q5,a2] at this
  exact this
 ·rw [if_neg he]
  exact ⟨fun _ _ _ _ => rfl,hm,jp⟩
theorem ask_rd : (askL R).rd = R.rd ∧ (askL R).mv = R.mv ∧ (askL R).f = R.f ∧ (askL R).g = R.g := by
 unfold askL
 split
 ·exact ⟨rfl,rfl,rfl,rfl⟩
 ·split
  ·exact ⟨rfl,rfl,rfl,rfl⟩
  ·split
   ·exact ⟨rfl,rfl,rfl,rfl⟩
   ·split <;> exact ⟨rfl,rfl,rfl,rfl⟩
theorem step_rd : (stepR R).rd = R.rd ∨ ((stepR R).busy = false ∧ (stepR R).end_ = R.end_) := by
 unfold stepR doneR
 split
 ·split
  ·exact .inl rfl
  ·exact .inr ⟨rfl,rfl⟩
 ·split <;> exact .inl rfl
theorem stepR_mv : (stepR R).mv = R.mv ∧ (stepR R).f = R.f ∧ (stepR R).g = R.g := by
 unfold stepR doneR
 split
 ·split <;> exact ⟨rfl,rfl,rfl⟩
 ·split <;> exact ⟨rfl,rfl,rfl⟩
theorem next_mv : (nextR R).mv = R.mv ∧ (nextR R).f = R.f ∧ (nextR R).g = R.g := by
 unfold nextR
 split
 ·rw [stepR_mv.1,stepR_mv.2.1,stepR_mv.2.2]
  exact ask_rd.2
 ·exact ⟨rfl,rfl,rfl⟩
theorem sum_four {rd : List Wo} (hr : rd.map (·.pl) = [0,1,2,3]) {τ : Int} (hv : ∀ w ∈ rd,w.vl = h τ (26 + 2 * w.pl)) (hs : i64.wrap (sumH h τ) = 40) : sumT rd = 40 := by
 match rd,hr with
 | [⟨p,a⟩,⟨q,b⟩,⟨r,c⟩,⟨s,d⟩],hr =>
  simp only [List.map_cons,List.map_nil,List.cons.injEq,and_true] at hr
  obtain ⟨rfl,rfl,rfl,rfl⟩ := hr
  have ha : a = h τ 26 := hv ⟨0,a⟩ (by simp)
  have hb : b = h τ 28 := hv ⟨1,b⟩ (by simp)
  have hc : c = h τ 30 := hv ⟨2,c⟩ (by simp)
  have hd : d = h τ 32 := hv ⟨3,d⟩ (by simp)
  unfold sumT
  simp only [List.foldl_cons,List.foldl_nil]
  rw [← hs]
  unfold sumH
  rw [← ha,← hb,← hc,← hd]
  obtain ⟨k1,e1⟩ := wrap_mod (0 + a)
  obtain ⟨k2,e2⟩ := wrap_mod (i64.wrap (0 + a) + b)
  obtain ⟨k3,e3⟩ := wrap_mod (i64.wrap (i64.wrap (0 + a) + b) + c)
  exact wrap_eq (k := k1 + k2 + k3) (by omega)
theorem next_sum (Q : Sys n R.X.W h u) (hR : u t = some R) (I : RI n R) (hp : R.mv = true → PlOk R) (hn : n + 1 ≤ 1000) (hm : R.mv = false) (h4 : (nextR R).rd.length = 4) (h3 : R.rd.length = 3) : sumT (nextR R).rd = 40 := by
 obtain ⟨⟨h',Q'⟩,I'⟩ := run_next Q hR I hp hn
 have mv := next_mv (R := R)
 have ne : (nextR R).rd ≠ R.rd := fun e => by rw [e,h3] at h4; exact absurd h4 (by decide)
 have st : (nextR R).busy = false ∧ (nextR R).end_ = 0 := by
  unfold nextR at ne ⊢
  by_cases he : R.end_ = 0
  ·rw [if_pos he] at ne ⊢
   rcases step_rd (R := askL R) with k | k
   ·exact absurd (k.trans ask_rd.1) ne
   ·exact ⟨k.1,by rw [k.2]; exact (run_ask Q hR I he hp).2.2.2.1⟩
  ·rw [if_neg he] at ne
   exact absurd rfl ne
 have L := Q'.lo t _ (upd_self _ _ _)
 cases I' with
 | over a _ _ => exact absurd st.2 a
 | beg _ a => rw [st.1] at a; cases a
 | read _ a => rw [st.1] at a; cases a
 | com _ a => rw [st.1] at a; cases a
 | back _ a => rw [st.1] at a; cases a
 | new _ _ _ _ _ a => rw [a] at h4; cases h4
 | idle a1 a2 a3 a4 a5 a6 a7 a8 =>
  have al : alv (nextR R).X := ⟨a6.2.1,by rw [a6.2.2.1]; decide⟩
  refine sum_four ?_ (fun w hw => (L.rdh al w hw).2.1) (Q'.sm (nextR R).X.stamp)
  have hl : (nextR R).rd.length = (rdPl (nextR R) ((nextR R).i - 1)).length := by rw [← a7,List.length_map]
  rw [a7]
  unfold rdPl at hl ⊢
  rw [mv.1,hm] at hl ⊢
  rw [cond_false] at hl ⊢
  rw [h4,List.length_take] at hl
  have : (nextR R).i - 1 = 4 := by
   have hl : 4 = min ((nextR R).i - 1) 4 := hl
   omega
  rw [this]
  rfl
end Go.Proofs.Ytmjjljngaefpaaa
/- Three runs by picks: a pick. -/
namespace Go.Proofs.Ytmjjljngaefpaaa
open Go.RowKit Go.Am Go.Sy
open Go.IntKind (i64 u64)
set_option linter.unusedVariables false
variable {n : Nat} {h : Int → Int → Int} {u : US} {t : Int} {R : RM} {W : List Int} {S : TS} {F : RM} {b : Bool}
structure Cur (n : Nat) (S : TS) (t : Int) (R : RM) : Prop where
 sys : ∃ h,Sys n S.M.W h (upd S.u t R)
 ri : RI n R
 pl : R.mv = true → PlOk R
 t0 : t = 0 → R.mv = false
 jp : R.X.job = 0 → R.X.ph = false
 mks : R.X.ph = true ∨ at0 S.M.W (11 + 2 * t) = 0
 th : R.X.th = t
theorem cur_new (I : Inv n S) (ht : 0 ≤ t ∧ t < 3) (hF : FOk t F) (ho : ∀ R,S.u t = some R → R.X.job = 0) : Cur n S t F := by
 obtain ⟨h,Q⟩ := I.sys
 have na : ¬alv F.X := fun a => by have := a.1; rw [hF.life] at this; exact absurd this (by decide)
 refine ⟨⟨h,Q.fresh (fun R hR r => no_hd0 (.inl (ho R hR)) r) ⟨ht.1,ht.2,hF.th⟩ na (no_tk hF.tk) (Lo.dead na hF.tk hF.rows (.inl hF.job) fun e => ?_)⟩,.new hF.e hF.b hF.i hF.tk hF.job hF.rd hF.sb,hF.pl,hF.t0,fun _ => hF.ph,.inr ?_,hF.th⟩
 ·rw [hF.job] at e
  exact absurd e (by decide)
 ·rcases I.mks t ht.1 ht.2 with k | ⟨R,k1,k2⟩
  ·exact k
  ·rw [I.ov t R k1 (ho R k1)] at k2
   cases k2
theorem cur_ok (I : Inv n S) (ht : 0 ≤ t ∧ t < 3) (hF : FOk t F) : Cur n S t (curR S t F b) := by
 unfold curR
 cases e : S.u t with
 | none => exact cur_new I ht hF fun R hR => by rw [e] at hR; cases hR
 | some R =>
  obtain ⟨i1,i2,i3⟩ := I.ri t R e
  by_cases hc : b = true ∧ R.end_ ≠ 0
  ·show Cur n S t (if b = true ∧ R.end_ ≠ 0 then F else R)
   rw [if_pos hc]
   exact cur_new I ht hF fun R' hR => by rw [e] at hR; cases hR; exact over_job i1 hc.2
  ·show Cur n S t (if b = true ∧ R.end_ ≠ 0 then F else R)
   rw [if_neg hc]
   obtain ⟨h,Q⟩ := I.sys
   refine ⟨⟨h,Q.relab e R.i R.busy R.end_⟩,i1,i2,i3,I.ov t R e, ?_,(Q.th t R e).2.2⟩
   rcases I.mks t ht.1 ht.2 with k | ⟨R',k1,k2⟩
   ·exact .inr k
   ·rw [e] at k1
    cases k1
    exact .inl k2
theorem inv_pick (I : Inv n S) (ht : 0 ≤ t ∧ t < 3) (hF : FOk t F) (hn : n + 1 ≤ 1000) : Inv (n + 1) (pickS S t F b) := by
 have C := cur_ok (b := b) I ht hF
 obtain ⟨R0,hR0⟩ : ∃ R0,R0 = curR S t F b := ⟨_,rfl⟩
 unfold pickS
 rw [← hR0] at C ⊢
 obtain ⟨⟨h,Q⟩,c1,c2,c3,c4,c5,c6⟩ := C
 have Q1 := Q.memo (upd_self S.u t R0) S.M
 rw [upd_upd] at Q1
 obtain ⟨R1,hR1⟩ : ∃ R1,R1 = memR S R0 := ⟨_,rfl⟩
 have e1 : ({ R0 with X := memX R0.X S.M } : RM) = R1 := hR1.symm
 rw [e1] at Q1
 have eW : R1.X.W = S.M.W := by rw [hR1]; rfl
 have ri1 : RI n R1 := by rw [hR1]; exact c1.mem S.M
 have pl1 : R1.mv = true → PlOk R1 := by rw [hR1]; exact fun e => ⟨(c2 e).f,(c2 e).g,(c2 e).ne⟩
 have t01 : t = 0 → R1.mv = false := by rw [hR1]; exact c3
 have jp1 : R1.X.job = 0 → R1.X.ph = false := by rw [hR1]; exact c4
 have th1 : R1.X.th = t := by rw [hR1]; exact c6
 have mk1 : R1.X.ph = true ∨ at0 R1.X.W (11 + 2 * R1.X.th) = 0 := by rw [eW,th1,hR1]; exact c5
 have rd1 : R0.rd = R1.rd := by rw [hR1]; rfl
 rw [← eW] at Q1
 rw [← hR1,rd1]
 obtain ⟨⟨h',Q'⟩,ri'⟩ := run_next Q1 (upd_self _ _ _) ri1 pl1 hn
 rw [upd_upd] at Q'
 obtain ⟨m1,m2,m3⟩ := next_mk Q1 (upd_self _ _ _) ri1 pl1 jp1 mk1
 have mv := next_mv (R := R1)
 refine ⟨⟨h',Q'⟩,fun k R hk => ?_,fun k k0 k3 => ?_,fun k R hk hj => ?_,fun s hs => ?_⟩
 ·rcases upd_cases hk with ⟨rfl,rfl⟩ | ⟨x,y⟩
  ·refine ⟨ri',fun e => ?_,fun e => by rw [mv.1]; exact t01 e⟩
   rw [mv.1] at e
   have := pl1 e
   exact ⟨by rw [mv.2.1]; exact this.f,by rw [mv.2.2]; exact this.g,by rw [mv.2.1,mv.2.2]; exact this.ne⟩
  ·obtain ⟨i1,i2,i3⟩ := I.ri k R y
   exact ⟨i1.mono,i2,i3⟩
 ·by_cases e : k = t
  ·subst e
   rw [← th1]
   rcases m2 with z | z
   ·exact .inr ⟨_,by rw [th1]; exact upd_self _ _ _,z⟩
   ·exact .inl z
  ·rcases I.mks k k0 k3 with z | ⟨R,z1,z2⟩
   ·exact .inl (by show at0 (nextR R1).X.W _ = 0; rw [m1 k k0 k3 (by rw [th1]; exact e),eW]; exact z)
   ·exact .inr ⟨R,by show upd S.u t _ k = _; unfold upd; rw [if_neg e]; exact z1,z2⟩
 ·rcases upd_cases hk with ⟨rfl,rfl⟩ | ⟨x,y⟩
  ·exact m3 hj
  ·exact I.ov k R y hj
 ·have hs : s ∈ (if t = 0 ∧ (nextR R1).rd.length = 4 ∧ R1.rd.length = 3 then S.sums ++ [sumT (nextR R1).rd] else S.sums) := hs
  split at hs
  ·rename_i hc
   rcases List.mem_append.1 hs with z | z
   ·exact I.su s z
   ·rw [List.mem_singleton] at z
    rw [z]
    exact next_sum Q1 (upd_self _ _ _) ri1 pl1 hn (t01 hc.1) hc.2.1 hc.2.2
  ·exact I.su s hs
def left (S : TS) (t : Int) : Nat := match S.u t with | none => 51 | some R => rkR R
theorem rk_fresh (hF : FOk t F) : rkR F = 50 := by rw [rk_idle hF.e hF.b,if_pos hF.i]
theorem left_pick (I : Inv n S) (ht : 0 ≤ t ∧ t < 3) (hF : FOk t F) (hn : n + 1 ≤ 1000) : left (pickS S t F false) t ≤ left S t - 1 := by
 have C := cur_ok (b := false) I ht hF
 have e : left (pickS S t F false) t = rkR (nextR (memR S (curR S t F false))) := by
  unfold left pickS
  show (match upd S.u t _ t with | none => 51 | some R => rkR R) = _
  rw [upd_self]
 rw [e]
 obtain ⟨⟨h,Q⟩,c1,c2,c3,c4,c5,c6⟩ := C
 have Q1 := Q.memo (upd_self S.u t _) S.M
 have a := rk_next (R := memR S (curR S t F false)) Q1 (upd_self _ _ _) (c1.mem S.M) (fun e => ⟨(c2 e).f,(c2 e).g,(c2 e).ne⟩) hn
 have b2 : rkR (memR S (curR S t F false)) ≤ left S t := by
  show rkR (curR S t F false) ≤ left S t
  unfold left curR
  cases e : S.u t with
  | none => show rkR F ≤ 51; rw [rk_fresh hF]; decide
  | some R =>
   show rkR (if false = true ∧ R.end_ ≠ 0 then F else R) ≤ rkR R
   rw [if_neg (fun x => Bool.noConfusion x.1)]
   exact Nat.le_refl _
 omega
theorem left_else (k : Int) (hk : k ≠ t) : left (pickS S t F b) k = left S k := by
 unfold left pickS
 show (match upd S.u t _ k with | none => 51 | some R => rkR R) = _
 unfold upd
 rw [if_neg hk]
theorem inv_end (I : Inv n S) (hl : ∀ t,0 ≤ t → t < 3 → left S t = 0) : (∀ t,0 ≤ t → t < 3 → ∃ R,S.u t = some R ∧ R.end_ ≠ 0) ∧ (∀ t,0 ≤ t → t < 3 → at0 S.M.W (11 + 2 * t) = 0) ∧ i64.wrap (at0 S.M.W 26 + at0 S.M.W 28 + at0 S.M.W 30 + at0 S.M.W 32) = 40 := by
 have ends : ∀ t,0 ≤ t → t < 3 → ∃ R,S.u t = some R ∧ R.end_ ≠ 0 := by
  intro t h0 h3
  have := hl t h0 h3
  unfold left at this
  cases e : S.u t with
  | none => rw [e] at this; cases this
  | some R =>
   rw [e] at this
   exact ⟨R,rfl,rk_end (I.ri t R e).1 this⟩
 obtain ⟨h,Q⟩ := I.sys
 have jobs : ∀ t R,S.u t = some R → R.X.job = 0 := by
  intro t R hR
  obtain ⟨h0,h3,_⟩ := Q.th t R hR
  obtain ⟨R',e1,e2⟩ := ends t h0 h3
  rw [hR] at e1
  cases e1
  exact over_job (I.ri t R hR).1 e2
 refine ⟨ends,fun t h0 h3 => ?_, ?_⟩
 ·rcases I.mks t h0 h3 with k | ⟨R,k1,k2⟩
  ·exact k
  ·rw [I.ov t R k1 (jobs t R k1)] at k2
   cases k2
 ·have calm0 : ∀ r,calm S.u r := fun r t R hR _ => no_hd0 (.inl (jobs t R hR)) r
  have hv : ∀ d,isData d → h (at0 S.M.W 0) d = at0 S.M.W d := fun d hd => Q.da d hd (calm0 _) _ (Q.vc _ (hash_ge hd).1 (hash_ge hd).2)
  have := Q.sm (at0 S.M.W 0)
  unfold sumH at this
  rw [hv 26 (.inl rfl),hv 28 (.inr (.inl rfl)),hv 30 (.inr (.inr (.inl rfl))),hv 32 (.inr (.inr (.inr rfl)))] at this
  exact this
end Go.Proofs.Ytmjjljngaefpaaa
/- Three runs by picks: all of them, and the last three hundred. -/
namespace Go.Proofs.Ytmjjljngaefpaaa
open Go.RowKit Go.Am Go.Sy
open Go.IntKind (i64 u64)
set_option linter.unusedVariables false
def W10 : List Int := [0,0,0,0,0,0,0,0,0,0,0,0,0,0,0,0,0,0,0,0,0,0,0,0,0,0,10,0,10,0,10,0,10,0].set 26 10
def newX (t c : Int) : XM := ⟨0,t,c,0,0,0,0,0,0,0,0,0,0,0,0,0,0,0,0,false,[],[],0,[],[],W10,0,0,0,0,0,false,0,0,0,0⟩
def uT (x : Int) : Int := x % 18446744073709551616
def mvK (moves : List Int) (k : Nat) : Int := uT (at0 moves ((k % moves.length : Nat) : Int))
def mvF (v : Int) : Int := v % 4
def mvG (v : Int) : Int := if v / 4 % 3 ≥ v % 4 then v / 4 % 3 + 1 else v / 4 % 3
def freshF (c : Int) (moves : List Int) (k : Nat) (t : Int) : RM := ⟨newX t c,decide (0 < t) && !moves.isEmpty,mvF (mvK moves k),mvG (mvK moves k),mvK moves k / 12 % 5,0,false,0,[]⟩
def startsT (S : TS) (t : Int) (b : Bool) : Bool := match S.u t with | none => true | some R => b && R.end_ != 0
def goT (c : Int) (moves : List Int) (pk : Nat → Int) (L : Nat) (i : Nat) (S : TS × Nat) : TS × Nat :=
 (pickS S.1 (pk i) (freshF c moves S.2 (pk i)) (decide (i < L)),if startsT S.1 (pk i) (decide (i < L)) = true ∧ 0 < pk i ∧ moves ≠ [] then S.2 + 1 else S.2)
def iterT (c : Int) (moves : List Int) (pk : Nat → Int) (L : Nat) (S0 : TS × Nat) : Nat → TS × Nat
 | 0 => S0
 | i + 1 => goT c moves pk L i (iterT c moves pk L S0 i)
theorem frsh_ok {c : Int} {moves : List Int} {k : Nat} {t : Int} (hc : c = 1 ∨ c = 2) (ht : 0 ≤ t ∧ t < 3) : FOk t (freshF c moves k t) where
 e := rfl
 b := rfl
 i := rfl
 tk := rfl
 rows := rfl
 job := rfl
 life := rfl
 ph := rfl
 rd := rfl
 sb := ⟨ht,hc,fun w hw => absurd hw List.not_mem_nil,List.nodup_nil,fun w hw => absurd hw List.not_mem_nil,List.nodup_nil⟩
 th := rfl
 pl := fun _ => by
  have h4 : ∀ v : Int,0 ≤ mvF v ∧ mvF v < 4 ∧ 0 ≤ mvG v ∧ mvG v < 4 ∧ mvF v ≠ mvG v := by
   intro v
   unfold mvF mvG
   split <;> omega
  have := h4 (mvK moves k)
  exact ⟨⟨this.1,this.2.1⟩,⟨this.2.2.1,this.2.2.2.1⟩,this.2.2.2.2⟩
 t0 := fun e => by
  show (decide (0 < t) && _) = false
  rw [e]
  rfl
def Start (S : TS) : Prop := S.u = (fun _ => none) ∧ S.M.W = W10 ∧ S.sums = []
theorem inv_start {S : TS} (h : Start S) : Inv 0 S := by
 obtain ⟨h1,h2,h3⟩ := h
 have no : ∀ {t R},S.u t = some R → False := fun e => by rw [h1] at e; cases e
 refine ⟨⟨fun _ _ => 10, ?_⟩,fun t R e => (no e).elim,fun t a b => .inl ?_,fun t R e => (no e).elim,fun s hs => by rw [h3] at hs; cases hs⟩
 ·rw [h2]
  refine ⟨⟨rfl,by decide,fun r a b => ?_⟩,fun t R e => (no e).elim,fun r a b => ?_,fun r a b => .inl ?_,fun t R e => (no e).elim,fun t R t' R' e => (no e).elim,fun t R e => (no e).elim,fun t R e => (no e).elim,fun d hd _ τ _ => ?_,fun τ => ?_⟩
  ·rcases three a b with rfl | rfl | rfl <;> decide
  ·rcases three a b with rfl | rfl | rfl <;> decide
  ·rcases three a b with rfl | rfl | rfl <;> decide
  ·rcases hd with rfl | rfl | rfl | rfl <;> rfl
  ·show i64.wrap (10 + 10 + 10 + 10) = 40
   decide
 ·rw [h2]
  rcases three a b with rfl | rfl | rfl <;> decide
variable {c : Int} {moves : List Int} {pk : Nat → Int} {L : Nat} {S0 : TS × Nat}
theorem iter_inv (hc : c = 1 ∨ c = 2) (hp : ∀ i,0 ≤ pk i ∧ pk i < 3) (h0 : Start S0.1) : ∀ i,i ≤ 1000 → Inv i (iterT c moves pk L S0 i).1
 | 0,_ => inv_start h0
 | i + 1,h => inv_pick (iter_inv hc hp h0 i (by omega)) (hp i) (frsh_ok hc (hp i)) h
theorem iter_left (hc : c = 1 ∨ c = 2) (hp : ∀ i,0 ≤ pk i ∧ pk i < 3) (h0 : Start S0.1) {i : Nat} (hi : i + 1 ≤ 1000) (hL : L ≤ i) (t : Int) :
 left (iterT c moves pk L S0 (i + 1)).1 t ≤ left (iterT c moves pk L S0 i).1 t - (if pk i = t then 1 else 0) := by
 show left (goT c moves pk L i (iterT c moves pk L S0 i)).1 t ≤ _
 have e : decide (i < L) = false := decide_eq_false (by omega)
 unfold goT
 rw [e]
 by_cases h : pk i = t
 ·rw [if_pos h,← h]
  exact left_pick (iter_inv hc hp h0 i (by omega)) (hp i) (frsh_ok hc (hp i)) hi
 ·rw [if_neg h]
  exact Nat.le_of_eq (left_else t (Ne.symm h))
theorem tail_left (hc : c = 1 ∨ c = 2) (hp : ∀ i,0 ≤ pk i ∧ pk i < 3) (hp2 : ∀ i : Nat,L ≤ i → pk i = ((i % 3 : Nat) : Int)) (h0 : Start S0.1) (hL : L ≤ 200) (t : Int) (t0 : 0 ≤ t) (t3 : t < 3) :
 ∀ k : Nat,k ≤ 100 → left (iterT c moves pk L S0 (L + 3 * k)).1 t ≤ left (iterT c moves pk L S0 L).1 t - k
 | 0,_ => Nat.le_refl _
 | k + 1,hk => by
  have ih := tail_left hc hp hp2 h0 hL t t0 t3 k (by omega)
  have a1 := iter_left hc hp h0 (i := L + 3 * k) (moves := moves) (L := L) (by omega) (by omega) t
  have a2 := iter_left hc hp h0 (i := L + 3 * k + 1) (moves := moves) (L := L) (by omega) (by omega) t
  have a3 := iter_left hc hp h0 (i := L + 3 * k + 2) (moves := moves) (L := L) (by omega) (by omega) t
  rw [hp2 _ (by omega)] at a1 a2 a3
  have e2 : L + 3 * k + 1 + 1 = L + 3 * k + 2 := rfl
  rw [e2] at a2
  show left (iterT c moves pk L S0 (L + 3 * k + 2 + 1)).1 t ≤ _
  have : ((L + 3 * k) % 3 : Nat) = t ∨ ((L + 3 * k + 1) % 3 : Nat) = t ∨ ((L + 3 * k + 2) % 3 : Nat) = t := by omega
  rcases this with h | h | h
  ·rw [if_pos h] at a1; omega
  ·rw [if_pos h] at a2; omega
  ·rw [if_pos h] at a3; omega
theorem rk_le {n : Nat} {R : RM} (I : RI n R) : rkR R ≤ 51 := by
 have x1 : ∀ s : XM,s.job = 5 → s.tk.length ≤ 3 → ∀ i,rkX i s ≤ 51 := fun s h h3 i => by rw [rk_5 h]; omega
 have x4 : ∀ s : XM,s.job = 4 → ∀ i,rkX i s ≤ 51 := fun s h i => by
  rw [rk_4 h rfl]
  repeat' split
  all_goals omega
 cases I with
 | over a _ _ => rw [rk_over a]; decide
 | new a1 a2 a3 => rw [rk_idle a1 a2,if_pos a3]; decide
 | idle a1 a2 a3 a4 => rw [rk_idle a1 a2,if_neg (by omega)]; omega
 | beg a1 a2 a3 a4 a5 => rw [rk_busy a1 a2,rk_1 a5]; decide
 | read a1 a2 a3 a4 a5 a6 a7 => rw [rk_busy a1 a2,rk_2 a7]; omega
 | com a1 a2 a3 a4 a5 => rw [rk_busy a1 a2]; exact x4 _ a5 _
 | back a1 a2 a3 a4 a5 =>
  rw [rk_busy a1 a2]
  refine x1 _ a5 ?_ _
  cases a4.kd with
  | u _ _ _ p0 => exact tk3 p0
  | no b _ => rw [a5] at b; exact absurd b (by decide)
  | op _ b _ => rw [a5] at b; exact absurd b (by decide)
  | b _ b => rw [a5] at b; exact absurd b (by decide)
  | r0 _ b => rw [a5] at b; exact absurd b (by decide)
  | r1 _ b => rw [a5] at b; exact absurd b (by decide)
  | r2 _ b => rw [a5] at b; exact absurd b (by decide)
  | m _ b => rw [a5] at b; exact absurd b (by decide)
  | l _ b => rw [a5] at b; exact absurd b (by decide)
  | t _ b => rw [a5] at b; exact absurd b (by decide)
  | o _ b => rw [a5] at b; exact absurd b (by decide)
  | k q _ b => rw [a5] at b; exact absurd b (by decide)
  | ch q _ b => rw [a5] at b; exact absurd b (by decide)
  | w _ b => rw [a5] at b; exact absurd b (by decide)
  | f _ b => rw [a5] at b; exact absurd b (by decide)
  | e _ b => rw [a5] at b; exact absurd b (by decide)
theorem law_end (hc : c = 1 ∨ c = 2) (hp : ∀ i,0 ≤ pk i ∧ pk i < 3) (hp2 : ∀ i : Nat,L ≤ i → pk i = ((i % 3 : Nat) : Int)) (h0 : Start S0.1) (hL : L ≤ 200) :
 (∀ s ∈ (iterT c moves pk L S0 (L + 300)).1.sums,s = 40) ∧ (∀ t,0 ≤ t → t < 3 → ∃ R,(iterT c moves pk L S0 (L + 300)).1.u t = some R ∧ R.end_ ≠ 0) ∧ (∀ t,0 ≤ t → t < 3 → at0 (iterT c moves pk L S0 (L + 300)).1.M.W (11 + 2 * t) = 0) ∧
 i64.wrap (at0 (iterT c moves pk L S0 (L + 300)).1.M.W 26 + at0 (iterT c moves pk L S0 (L + 300)).1.M.W 28 + at0 (iterT c moves pk L S0 (L + 300)).1.M.W 30 + at0 (iterT c moves pk L S0 (L + 300)).1.M.W 32) = 40 := by
 have I := iter_inv (moves := moves) (L := L) hc hp h0 (L + 300) (by omega)
 refine ⟨I.su,inv_end I fun t t0 t3 => ?_⟩
 have a := tail_left (moves := moves) hc hp hp2 h0 hL t t0 t3 100 (Nat.le_refl _)
 have I2 := iter_inv (moves := moves) (L := L) hc hp h0 L (by omega)
 have b : left (iterT c moves pk L S0 L).1 t ≤ 51 := by
  unfold left
  cases e : (iterT c moves pk L S0 L).1.u t with
  | none => exact Nat.le_refl _
  | some R => exact rk_le (I2.ri t R e).1
 have e3 : L + 3 * 100 = L + 300 := rfl
 rw [e3] at a
 omega
end Go.Proofs.Ytmjjljngaefpaaa

/- A run: what it asks, a step of it. -/
import Derived.Test.YtmjjljngaefpaaaOw
namespace Go.Proofs.Ytmjjljngaefpaaa
open Go.RowKit Go.Am Go.Sy
open Go.IntKind (i64 u64)
set_option linter.unusedVariables false
def pAt (R : RM) : Int := bif R.mv then (if R.i = 1 then R.f else R.g) else (R.i : Int) - 1
def pRd (R : RM) : Bool := bif R.mv then decide (R.i ≤ 2) else decide (R.i ≤ 4)
def doneR (R : RM) : RM := if 4 < R.i then { R with busy := false,end_ := 1 } else { R with busy := false,i := R.i + 1,rd := if 0 < R.i then R.rd ++ [⟨pAt R,R.X.value⟩] else R.rd }
def stepR (R : RM) : RM := if (stepX R.X).code = 1 then doneR { R with X := stepX R.X } else if (stepX R.X).code = 2 then { R with X := stepX R.X,end_ := 2 } else { R with X := stepX R.X }
def valT (rd : List Wo) (p o : Int) : Int := rd.foldl (fun v w => if w.pl = p then i64.wrap (w.vl + o) else v) o
def askL (R : RM) : RM :=
 if R.busy = true then R else if R.i = 0 then { R with X := beginX R.X,busy := true }
 else if pRd R = true then { R with X := readX (26 + 2 * pAt R) R.X,busy := true }
 else if R.mv = true then { R with X := commitX (writeX (26 + 2 * R.g) (valT R.rd R.g R.m) (writeX (26 + 2 * R.f) (valT R.rd R.f (-R.m)) R.X)),busy := true,i := 5 }
 else { R with X := commitX R.X,busy := true }
def rdPl (R : RM) (k : Nat) : List Int := bif R.mv then [R.f,R.g].take k else ([0,1,2,3] : List Int).take k
structure PlOk (R : RM) : Prop where
 f : 0 ≤ R.f ∧ R.f < 4
 g : 0 ≤ R.g ∧ R.g < 4
 ne : R.f ≠ R.g
inductive RI (n : Nat) (R : RM) : Prop
 | new : R.end_ = 0 → R.busy = false → R.i = 0 → R.X.tk = [] → R.X.job = 0 → R.rd = [] → SB R.X → RI n R
 | idle : R.end_ = 0 → R.busy = false → 0 < R.i → R.i ≤ 5 → (R.mv = true → R.i ≤ 3) → opX R.X → R.rd.map (·.pl) = rdPl R (R.i - 1) → R.X.ws = [] → RI n R
 | beg : R.end_ = 0 → R.busy = true → R.i = 0 → AI n R.X → R.X.job = 1 → R.X.ws = [] → R.rd = [] → RI n R
 | read : R.end_ = 0 → R.busy = true → 0 < R.i → R.i ≤ 4 → pRd R = true → AI n R.X → R.X.job = 2 → R.X.at_ = 26 + 2 * pAt R → R.rd.map (·.pl) = rdPl R (R.i - 1) → R.X.ws = [] → RI n R
 | com : R.end_ = 0 → R.busy = true → R.i = 5 → AI n R.X → R.X.job = 4 → RI n R
 | back : R.end_ = 0 → R.busy = true → R.i ≤ 5 → AI n R.X → R.X.job = 5 → RI n R
 | over : R.end_ ≠ 0 → noX R.X → SB R.X → RI n R
variable {n : Nat} {h : Int → Int → Int} {u : US} {t : Int} {R : RM} {W : List Int}
theorem ab_code (c : Int) (s : XM) : (abX c s).code ≠ 1 := by
 unfold abX
 cases s.ph
 ·exact (show (2 : Int) ≠ 1 by decide)
 ·exact (show (0 : Int) ≠ 1 by decide)
theorem rd_code {s : XM} (e1 : s.job = 2) (e2 : s.part = 0 ∨ s.part = 1) : (stepX s).code ≠ 1 := by
 unfold stepX readX'
 rw [if_neg (by rw [e1]; decide),if_pos e1]
 rcases e2 with e | e
 ·rw [if_pos e]
  cases freshT (at0 s.W (2 + s.row)) s.stamp != 0
  ·show (0 : Int) ≠ 1
   decide
  ·exact ab_code _ _
 ·rw [if_neg (by rw [e]; decide),if_pos e]
  show (0 : Int) ≠ 1
  decide
theorem rd_part {s : XM} (hA : AI n s) (e1 : s.job = 2) : s.part = 0 ∨ s.part = 1 ∨ s.part = 2 := by
 cases hA.kd with
 | r0 _ _ e => exact .inl e
 | r1 _ _ e => exact .inr (.inl e)
 | r2 _ _ e => exact .inr (.inr e)
 | no a _ => rw [e1] at a; exact absurd a (by decide)
 | op _ a _ => rw [e1] at a; exact absurd a (by decide)
 | b _ a => rw [e1] at a; exact absurd a (by decide)
 | m _ a => rw [e1] at a; exact absurd a (by decide)
 | l _ a => rw [e1] at a; exact absurd a (by decide)
 | t _ a => rw [e1] at a; exact absurd a (by decide)
 | o _ a => rw [e1] at a; exact absurd a (by decide)
 | k q _ a => rw [e1] at a; exact absurd a (by decide)
 | ch q _ a => rw [e1] at a; exact absurd a (by decide)
 | w _ a => rw [e1] at a; exact absurd a (by decide)
 | f _ a => rw [e1] at a; exact absurd a (by decide)
 | e _ a => rw [e1] at a; exact absurd a (by decide)
 | u _ a => rw [e1] at a; exact absurd a (by decide)
theorem rd_clear {s : XM} (hA : AI n s) (e1 : s.job = 2) : s.life = 1 ∧ clear s := by
 cases hA.kd with
 | r0 a _ _ b => exact ⟨a,b⟩
 | r1 a _ _ b => exact ⟨a,b⟩
 | r2 a _ _ b => exact ⟨a,b⟩
 | no a _ => rw [e1] at a; exact absurd a (by decide)
 | op _ a _ => rw [e1] at a; exact absurd a (by decide)
 | b _ a => rw [e1] at a; exact absurd a (by decide)
 | m _ a => rw [e1] at a; exact absurd a (by decide)
 | l _ a => rw [e1] at a; exact absurd a (by decide)
 | t _ a => rw [e1] at a; exact absurd a (by decide)
 | o _ a => rw [e1] at a; exact absurd a (by decide)
 | k q _ a => rw [e1] at a; exact absurd a (by decide)
 | ch q _ a => rw [e1] at a; exact absurd a (by decide)
 | w _ a => rw [e1] at a; exact absurd a (by decide)
 | f _ a => rw [e1] at a; exact absurd a (by decide)
 | e _ a => rw [e1] at a; exact absurd a (by decide)
 | u _ a => rw [e1] at a; exact absurd a (by decide)
theorem stepR_1 (e : (stepX R.X).code = 1) : stepR R = doneR { R with X := stepX R.X } := by unfold stepR; rw [if_pos e]
theorem stepR_2 (e : (stepX R.X).code = 2) : stepR R = { R with X := stepX R.X,end_ := 2 } := by unfold stepR; rw [if_neg (by rw [e]; decide),if_pos e]
theorem stepR_0 (e : (stepX R.X).code = 0) : stepR R = { R with X := stepX R.X } := by unfold stepR; rw [if_neg (by rw [e]; decide),if_neg (by rw [e]; decide)]
theorem rdPl_next (h0 : 0 < R.i) (h1 : R.i ≤ 4) (hp : pRd R = true) : rdPl R (R.i - 1) ++ [pAt R] = rdPl R R.i := by
 unfold rdPl pAt
 unfold pRd at hp
 obtain ⟨i,hi⟩ : ∃ i,i = R.i := ⟨_,rfl⟩
 rw [← hi] at h0 h1 hp ⊢
 cases hm : R.mv with
 | true =>
  rw [hm] at hp
  have hp := of_decide_eq_true hp
  have : i = 1 ∨ i = 2 := by omega
  rcases this with rfl | rfl <;> rfl
 | false =>
  have : i = 1 ∨ i = 2 ∨ i = 3 ∨ i = 4 := by omega
  rcases this with rfl | rfl | rfl | rfl <;> rfl
theorem sys_rd (Q : Sys n R.X.W h u) (hR : u t = some R) (hA : AI n R.X) (hn : n + 1 ≤ 1000) (e1 : R.X.job = 2) {a : Int} (ha : R.X.at_ = 26 + 2 * a) (rd : List Wo) (hrd : rd = bif ((stepX R.X).code == 1) then R.rd ++ [⟨a,(stepX R.X).value⟩] else R.rd) (i : Nat) (busy : Bool) (en : Int) :
 ∃ h',Sys (n + 1) (stepX R.X).W h' (upd u t { R with X := stepX R.X,rd := rd,i := i,busy := busy,end_ := en }) := by
 obtain ⟨c1,c2⟩ := rd_clear hA e1
 by_cases e : R.X.part = 2
 ·exact ⟨h,sys_r2 Q hR c1 e1 e c2 ha rd hrd i busy en⟩
 ·obtain ⟨h',Q'⟩ := sys_stp Q hR hA (by rw [e1]; decide) hn (fun x => e x.2)
  have hc : ((stepX R.X).code == 1) = false := by
   have := rd_code e1 (by have := rd_part hA e1; omega)
   simpa using this
  rw [hc,cond_false] at hrd
  subst hrd
  exact ⟨h',Q'.relab' i busy en⟩
theorem run_step (Q : Sys n R.X.W h u) (hR : u t = some R) (I : RI n R) (hb : R.busy = true) (he : R.end_ = 0) (hn : n + 1 ≤ 1000) : (∃ h',Sys (n + 1) (stepX R.X).W h' (upd u t (stepR R))) ∧ RI (n + 1) (stepR R) := by
 have kp := step_kp R.X
 cases I with
 | new _ a => rw [hb] at a; cases a
 | idle _ a => rw [hb] at a; cases a
 | over a _ _ => exact absurd he a
 | beg a1 a2 a3 a4 a5 a6 a7 =>
  have A := step_aft a4 Q.mi (by rw [a5]; decide) (by omega)
  have ec : (stepX R.X).code = 1 := by unfold stepX; rw [if_pos a5]
  obtain ⟨h',Q'⟩ := sys_stp Q hR a4 (by rw [a5]; decide) hn (fun x => by have := x.1; rw [a5] at this; exact absurd this (by decide))
  have e : stepR R = { R with X := stepX R.X,busy := false,i := 1 } := by
   rw [stepR_1 ec]
   unfold doneR
   show (if 4 < R.i then _ else _) = _
   rw [if_neg (by rw [a3]; decide)]
   show ({ R with X := stepX R.X,busy := false,i := R.i + 1,rd := if 0 < R.i then _ else R.rd } : RM) = _
   rw [if_neg (by rw [a3]; decide),a3]
  rw [e]
  refine ⟨⟨h',Q'.relab' 1 false R.end_⟩,.idle a1 rfl (show 0 < 1 by decide) (show 1 ≤ 5 by decide) (fun _ => (show 1 ≤ 3 by decide)) ?_ ?_ (kp.1.trans a6)⟩
  ·rcases A.cd with k | k | k | k
   ·rw [ec] at k; exact absurd k.1 (by decide)
   ·exact ⟨A.ai.sb,k.2.2.1,k.2.1,k.2.2.2.1⟩
   ·rw [a5] at k; exact absurd k.2.2.2 (by decide)
   ·rw [ec] at k; exact absurd k.1 (by decide)
  ·show R.rd.map (·.pl) = rdPl _ 0
   rw [a7]
   unfold rdPl
   cases R.mv <;> rfl
 | read a1 a2 a3 a4 a5 a6 a7 a8 a9 a10 =>
  have A := step_aft a6 Q.mi (by rw [a7]; decide) (by omega)
  rcases A.cd with k | k | k | k
  ·rw [stepR_0 k.1]
   refine ⟨sys_rd Q hR a6 hn a7 a8 R.rd (by rw [k.1]; rfl) R.i R.busy R.end_, ?_⟩
   rcases k.2.2 with j | j
   ·exact .read a1 a2 a3 a4 a5 A.ai (j.trans a7) (kp.2.1.trans a8) a9 (kp.1.trans a10)
   ·exact .back a1 a2 (by show R.i ≤ 5; omega) A.ai j
  ·have e : stepR R = { R with X := stepX R.X,busy := false,i := R.i + 1,rd := R.rd ++ [⟨pAt R,(stepX R.X).value⟩] } := by
    rw [stepR_1 k.1]
    unfold doneR
    show (if 4 < R.i then _ else _) = _
    rw [if_neg (by omega)]
    show ({ R with X := stepX R.X,busy := false,i := R.i + 1,rd := if 0 < R.i then _ else R.rd } : RM) = _
    rw [if_pos a3]
    rfl
   rw [e]
   refine ⟨sys_rd Q hR a6 hn a7 a8 _ (by rw [k.1]; rfl) (R.i + 1) false R.end_,.idle a1 rfl (Nat.succ_pos _) (by show R.i + 1 ≤ 5; omega) (fun hm => ?_) ⟨A.ai.sb,k.2.2.1,k.2.1,k.2.2.2.1⟩ ?_ (kp.1.trans a10)⟩
   ·have hm : R.mv = true := hm
    unfold pRd at a5
    rw [hm] at a5
    have := of_decide_eq_true a5
    show R.i + 1 ≤ 3
    omega
   ·show (R.rd ++ [(⟨pAt R,(stepX R.X).value⟩ : Wo)]).map (fun w => w.pl) = rdPl R R.i
    rw [List.map_append,a9]
    exact rdPl_next a3 a4 a5
  ·rw [a7] at k; exact absurd k.2.2.2 (by decide)
  ·rw [stepR_2 k.1]
   refine ⟨sys_rd Q hR a6 hn a7 a8 R.rd (by rw [k.1]; rfl) R.i R.busy 2,.over (show (2 : Int) ≠ 0 by decide) k.2 A.ai.sb⟩
 | com a1 a2 a3 a4 a5 =>
  have A := step_aft a4 Q.mi (by rw [a5]; decide) (by omega)
  obtain ⟨h',Q'⟩ := sys_stp Q hR a4 (by rw [a5]; decide) hn (fun x => by have := x.1; rw [a5] at this; exact absurd this (by decide))
  rcases A.cd with k | k | k | k
  ·rw [stepR_0 k.1]
   refine ⟨⟨h',Q'⟩, ?_⟩
   rcases k.2.2 with j | j
   ·exact .com a1 a2 a3 A.ai (j.trans a5)
   ·exact .back a1 a2 (by show R.i ≤ 5; omega) A.ai j
  ·rw [a5] at k; exact absurd k.2.2.2.2 (by decide)
  ·have e : stepR R = { R with X := stepX R.X,busy := false,end_ := 1 } := by
    rw [stepR_1 k.1]
    unfold doneR
    show (if 4 < R.i then _ else _) = _
    rw [if_pos (by omega)]
   rw [e]
   exact ⟨⟨h',Q'.relab' R.i false 1⟩,.over (show (1 : Int) ≠ 0 by decide) ⟨k.2.1,.inr (.inl k.2.2.1)⟩ A.ai.sb⟩
  ·rw [stepR_2 k.1]
   exact ⟨⟨h',Q'.relab' R.i R.busy 2⟩,.over (show (2 : Int) ≠ 0 by decide) k.2 A.ai.sb⟩
 | back a1 a2 a3 a4 a5 =>
  have A := step_aft a4 Q.mi (by rw [a5]; decide) (by omega)
  obtain ⟨h',Q'⟩ := sys_stp Q hR a4 (by rw [a5]; decide) hn (fun x => by have := x.1; rw [a5] at this; exact absurd this (by decide))
  rcases A.cd with k | k | k | k
  ·rw [stepR_0 k.1]
   refine ⟨⟨h',Q'⟩,.back a1 a2 a3 A.ai (k.2.2.elim (fun j => j.trans a5) id)⟩
  ·rw [a5] at k; exact absurd k.2.2.2.2 (by decide)
  ·rw [a5] at k; exact absurd k.2.2.2 (by decide)
  ·rw [stepR_2 k.1]
   exact ⟨⟨h',Q'.relab' R.i R.busy 2⟩,.over (show (2 : Int) ≠ 0 by decide) k.2 A.ai.sb⟩
end Go.Proofs.Ytmjjljngaefpaaa
/- A run: what is asked. -/
namespace Go.Proofs.Ytmjjljngaefpaaa
open Go.RowKit Go.Am Go.Sy
open Go.IntKind (i64 u64)
set_option linter.unusedVariables false
variable {n : Nat} {h : Int → Int → Int} {u : US} {t : Int} {R : RM} {W : List Int}
theorem data_of {a : Int} (h0 : 0 ≤ a) (h1 : a < 4) : isData (26 + 2 * a) := by
 have : a = 0 ∨ a = 1 ∨ a = 2 ∨ a = 3 := by omega
 rcases this with rfl | rfl | rfl | rfl
 ·exact .inl rfl
 ·exact .inr (.inl rfl)
 ·exact .inr (.inr (.inl rfl))
 ·exact .inr (.inr (.inr rfl))
theorem pAt_data (hp : R.mv = true → PlOk R) (h0 : 0 < R.i) (h1 : pRd R = true) : isData (26 + 2 * pAt R) := by
 unfold pAt
 unfold pRd at h1
 cases hm : R.mv with
 | true =>
  have P := hp hm
  rw [cond_true]
  split
  ·exact data_of P.f.1 P.f.2
  ·exact data_of P.g.1 P.g.2
 | false =>
  rw [hm] at h1
  have := of_decide_eq_true h1
  rw [cond_false]
  exact data_of (by omega) (by omega)
theorem val_two {f g a b m : Int} (ne : f ≠ g) : valT [⟨f,a⟩,⟨g,b⟩] f (-m) = i64.wrap (a + -m) ∧ valT [⟨f,a⟩,⟨g,b⟩] g m = i64.wrap (b + m) := by
 unfold valT
 simp only [List.foldl_cons,List.foldl_nil,if_true,if_neg ne,if_neg (Ne.symm ne),and_self]
theorem rd_two {rd : List Wo} {f g : Int} (e : rd.map (·.pl) = [f,g]) : ∃ a b,rd = [⟨f,a⟩,⟨g,b⟩] := by
 match rd,e with
 | [⟨p,a⟩,⟨q,b⟩],e =>
  simp only [List.map_cons,List.map_nil,List.cons.injEq,and_true] at e
  exact ⟨a,b,by rw [e.1,e.2]⟩
theorem put_nil (p v : Int) : putT [] p v = [⟨p,v⟩] := rfl
theorem put_one {p q v w : Int} (ne : p ≠ q) : putT [⟨p,v⟩] q w = [⟨p,v⟩,⟨q,w⟩] := by
 unfold putT hasB
 have : (p == q) = false := by simpa using ne
 simp only [List.any_cons,List.any_nil,this,Bool.or_false,cond_false,List.cons_append,List.nil_append]
theorem op_write {s : XM} {p v : Int} (hS : opX s) (hp : isData p) : opX (writeX p v s) := ⟨(write_ai (n := 0) hS hp).sb,hS.2.1,hS.2.2.1,hS.2.2.2⟩
theorem run_ask (Q : Sys n W h u) (hR : u t = some R) (I : RI n R) (he : R.end_ = 0) (hp : R.mv = true → PlOk R) : Sys n W h (upd u t (askL R)) ∧ RI n (askL R) ∧ (askL R).busy = true ∧ (askL R).end_ = 0 ∧ (askL R).X.W = R.X.W := by
 have hth := Q.th t R hR
 have busy : R.busy = true → Sys n W h (upd u t (askL R)) ∧ RI n (askL R) ∧ (askL R).busy = true ∧ (askL R).end_ = 0 ∧ (askL R).X.W = R.X.W := by
  intro hb
  have e : askL R = R := by unfold askL; rw [if_pos hb]
  rw [e]
  exact ⟨Q.relab hR R.i R.busy R.end_,I,hb,he,rfl⟩
 cases I with
 | beg _ a => exact busy a
 | read _ a => exact busy a
 | com _ a => exact busy a
 | back _ a => exact busy a
 | over a _ _ => exact absurd he a
 | new a1 a2 a3 a4 a5 a6 a7 =>
  have e : askL R = { R with X := beginX R.X,busy := true } := by unfold askL; rw [if_neg (by rw [a2]; decide),if_pos a3]
  rw [e]
  refine ⟨Q.fresh (fun S hS r => ?_) hth (fun x => x.2 rfl) (no_tk rfl) (Lo.dead (fun x => x.2 rfl) rfl rfl (.inr rfl) fun _ => ⟨rfl,a6⟩),.beg a1 rfl a3 (beg_ai a7) rfl rfl a6,rfl,a1,rfl⟩
  rw [hR] at hS
  cases hS
  exact no_tk a4 r
 | idle a1 a2 a3 a4 a5 a6 a7 a8 =>
  have al : alv R.X := ⟨a6.2.1,by rw [a6.2.2.1]; decide⟩
  cases hr : pRd R with
  | true =>
   have hd := pAt_data hp a3 hr
   have i4 : R.i ≤ 4 := by
    unfold pRd at hr
    cases hm : R.mv with
    | true => rw [hm] at hr; have := of_decide_eq_true hr; omega
    | false => rw [hm] at hr; exact of_decide_eq_true hr
   have e : askL R = { R with X := readX (26 + 2 * pAt R) R.X,busy := true } := by unfold askL; rw [if_neg (by rw [a2]; decide),if_neg (by omega),if_pos hr]
   have e2 : readX (26 + 2 * pAt R) R.X = { R.X with at_ := 26 + 2 * pAt R,row := hashT (26 + 2 * pAt R),job := 2,part := 0,i := 0,code := 0 } := by
    unfold readX
    rw [show hasB R.X.ws (26 + 2 * pAt R) = false by rw [a8]; rfl]
    rfl
   have ai := read_ai (n := n) a6 hd
   rw [e]
   rw [e2] at ai ⊢
   exact ⟨Q.rest hR al a6.2.2.2.2.1 rfl a6.2.2.2.2.1 a6.2.2.2.2.2 (.inr (.inl ⟨rfl,rfl⟩)) a6.2.1 rfl rfl rfl (fun x => absurd x (by show (2 : Int) ≠ 4; decide)),.read a1 rfl a3 i4 hr ai rfl rfl a7 a8,rfl,a1,rfl⟩
  | false =>
   cases hm : R.mv with
   | false =>
    have i5 : R.i = 5 := by
     unfold pRd at hr
     rw [hm] at hr
     have := of_decide_eq_false hr
     omega
    have e : askL R = { R with X := commitX R.X,busy := true } := by unfold askL; rw [if_neg (by rw [a2]; decide),if_neg (by omega),if_neg (by rw [hr]; decide),if_neg (by rw [hm]; decide)]
    rw [e]
    exact ⟨Q.rest hR al a6.2.2.2.2.1 rfl a6.2.2.2.2.1 a6.2.2.2.2.2 (.inr (.inr ⟨rfl,rfl⟩)) a6.2.1 rfl rfl rfl (fun _ => .inl a8),.com a1 rfl i5 (com_ai a6) rfl,rfl,a1,rfl⟩
   | true =>
    have P := hp hm
    have i3 : R.i = 3 := by
     unfold pRd at hr
     rw [hm] at hr
     have := of_decide_eq_false hr
     have := a5 hm
     omega
    have e : askL R = { R with X := commitX (writeX (26 + 2 * R.g) (valT R.rd R.g R.m) (writeX (26 + 2 * R.f) (valT R.rd R.f (-R.m)) R.X)),busy := true,i := 5 } := by
     unfold askL; rw [if_neg (by rw [a2]; decide),if_neg (by omega),if_neg (by rw [hr]; decide),if_pos hm]
    have hpl : R.rd.map (·.pl) = [R.f,R.g] := by
     rw [a7,i3]
     unfold rdPl
     rw [hm]
     rfl
    obtain ⟨a,b,hab⟩ := rd_two hpl
    have hv := val_two (a := a) (b := b) (m := R.m) P.ne
    rw [← hab] at hv
    have ne2 : (26 + 2 * R.f : Int) ≠ 26 + 2 * R.g := by have := P.ne; omega
    have op := op_write (v := valT R.rd R.g R.m) (op_write (v := valT R.rd R.f (-R.m)) a6 (data_of P.f.1 P.f.2)) (data_of P.g.1 P.g.2)
    have hw : (writeX (26 + 2 * R.g) (valT R.rd R.g R.m) (writeX (26 + 2 * R.f) (valT R.rd R.f (-R.m)) R.X)).ws = [⟨26 + 2 * R.f,i64.wrap (a + -R.m)⟩,⟨26 + 2 * R.g,i64.wrap (b + R.m)⟩] := by
     show putT (putT R.X.ws _ _) _ _ = _
     rw [a8,put_nil,put_one ne2,hv.1,hv.2]
    rw [e]
    exact ⟨Q.rest hR al a6.2.2.2.2.1 rfl a6.2.2.2.2.1 a6.2.2.2.2.2 (.inr (.inr ⟨rfl,rfl⟩)) a6.2.1 rfl rfl rfl (fun _ => .inr ⟨a,b,hab,hw,P.ne⟩),.com a1 rfl rfl (com_ai op) rfl,rfl,a1,rfl⟩
def nextR (R : RM) : RM := if R.end_ = 0 then stepR (askL R) else R
theorem RI.mono (I : RI n R) : RI (n + 1) R := by
 cases I with
 | new a1 a2 a3 a4 a5 a6 a7 => exact .new a1 a2 a3 a4 a5 a6 a7
 | idle a1 a2 a3 a4 a5 a6 a7 a8 => exact .idle a1 a2 a3 a4 a5 a6 a7 a8
 | beg a1 a2 a3 a4 a5 a6 a7 => exact .beg a1 a2 a3 a4.mono a5 a6 a7
 | read a1 a2 a3 a4 a5 a6 a7 a8 a9 a10 => exact .read a1 a2 a3 a4 a5 a6.mono a7 a8 a9 a10
 | com a1 a2 a3 a4 a5 => exact .com a1 a2 a3 a4.mono a5
 | back a1 a2 a3 a4 a5 => exact .back a1 a2 a3 a4.mono a5
 | over a1 a2 a3 => exact .over a1 a2 a3
theorem RI.mem (M : XM) (I : RI n R) : RI n { R with X := memX R.X M } := by
 cases I with
 | new a1 a2 a3 a4 a5 a6 a7 => exact .new a1 a2 a3 a4 a5 a6 (a7.mem M)
 | idle a1 a2 a3 a4 a5 a6 a7 a8 => exact .idle a1 a2 a3 a4 a5 ⟨a6.1.mem M,a6.2⟩ a7 a8
 | beg a1 a2 a3 a4 a5 a6 a7 => exact .beg a1 a2 a3 (a4.mem M) a5 a6 a7
 | read a1 a2 a3 a4 a5 a6 a7 a8 a9 a10 => exact .read a1 a2 a3 a4 a5 (a6.mem M) a7 a8 a9 a10
 | com a1 a2 a3 a4 a5 => exact .com a1 a2 a3 (a4.mem M) a5
 | back a1 a2 a3 a4 a5 => exact .back a1 a2 a3 (a4.mem M) a5
 | over a1 a2 a3 => exact .over a1 a2 (a3.mem M)
theorem run_next (Q : Sys n R.X.W h u) (hR : u t = some R) (I : RI n R) (hp : R.mv = true → PlOk R) (hn : n + 1 ≤ 1000) : (∃ h',Sys (n + 1) (nextR R).X.W h' (upd u t (nextR R))) ∧ RI (n + 1) (nextR R) := by
 unfold nextR
 by_cases he : R.end_ = 0
 ·rw [if_pos he]
  obtain ⟨q1,q2,q3,q4,q5⟩ := run_ask Q hR I he hp
  rw [← q5] at q1
  have := run_step q1 (upd_self _ _ _) q2 q3 q4 hn
  rw [upd_upd] at this
  have e : (stepR (askL R)).X.W = (stepX (askL R).X).W := by
   unfold stepR doneR
   split
   ·split <;> rfl
   ·split <;> rfl
  rw [e]
  exact this
 ·rw [if_neg he]
  exact ⟨⟨h,(Q.relab hR R.i R.busy R.end_).mono⟩,I.mono⟩
end Go.Proofs.Ytmjjljngaefpaaa

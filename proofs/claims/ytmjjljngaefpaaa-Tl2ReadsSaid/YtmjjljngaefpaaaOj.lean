/- Opacity: what is decided gives its stripes back, what is aborted, too; any step. -/
import Derived.Test.YtmjjljngaefpaaaOi
namespace Go.Proofs.Ytmjjljngaefpaaa
open Go.RowKit Go.Am Go.Sy
open Go.IntKind (i64 u64)
set_option linter.unusedVariables false
variable {n : Nat} {h : Int → Int → Int} {u : US} {t : Int} {R : RM}
theorem sys_f (Q : Sys n R.X.W h u) (hR : u t = some R) (hS : SB R.X) (e1 : R.X.life = 2) (e2 : R.X.job = 4) (e3 : R.X.part = 10) (p0 : marked R.X) (e5 : R.X.i < R.X.rows.length) (mi : MI (n + 1) (stepX R.X).W) : Sys (n + 1) (stepX R.X).W h (upd u t { R with X := stepX R.X }) := by
 have L := Q.lo t R hR
 have hr := p0.2.1.at_ e5
 have hf : frm R.X = R.X.i := by unfold frm; rw [if_pos e2,if_pos e3]
 have full := L.full e2 (by rw [e3]; decide) (by rw [e3]; decide)
 have e : stepX R.X = { stX (2 + at0 R.X.rows (R.X.i : Int)) (R.X.made * 16) R.X with i := R.X.i + 1,part := bif geB (((R.X.i + 1 : Nat) : Int)) ((R.X.rows.length : Int)) then 11 else 10,code := 0 } := by
  unfold stepX endX
  rw [if_neg (by rw [e2]; decide),if_neg (by rw [e2]; decide),if_pos e2,if_neg (by rw [e3]; decide),if_neg (by rw [e3]; decide),if_neg (by rw [e3]; decide),if_neg (by rw [e3]; decide),if_neg (by rw [e3]; decide),if_neg (by rw [e3]; decide),if_pos e3]
 have hW : (stepX R.X).W = R.X.W.set (2 + at0 R.X.rows (R.X.i : Int)).toNat (R.X.made * 16) := by rw [e]; rfl
 have T := turn_set Q.mi.len (v := R.X.made * 16) hr.1 hr.2
 obtain ⟨R',hR'⟩ : ∃ R' : RM,R' = { R with X := stepX R.X } := ⟨_,rfl⟩
 have x : R'.X.life = 2 ∧ R'.X.job = 4 ∧ (R'.X.part = 10 ∧ R.X.i + 1 < R.X.rows.length ∨ R'.X.part = 11 ∧ R.X.i + 1 = R.X.rows.length) ∧ R'.X.i = R.X.i + 1 ∧ R'.X.made = R.X.made ∧ R'.X.tk = R.X.tk ∧ R'.X.rows = R.X.rows ∧ R'.X.th = R.X.th ∧ R'.X.ws = R.X.ws := by
  subst hR'
  rw [e]
  refine ⟨e1,e2, ?_,rfl,rfl,rfl,rfl,rfl,rfl⟩
  cases hg : geB (((R.X.i + 1 : Nat) : Int)) ((R.X.rows.length : Int)) with
  | true =>
   have := of_decide_eq_true hg
   exact .inr ⟨rfl,by omega⟩
  | false =>
   have := of_decide_eq_false hg
   exact .inl ⟨rfl,by omega⟩
 obtain ⟨x1,x2,x3,x4,x5,x6,x7,x8,x9⟩ := x
 have hf' : R'.X.i ≤ frm R'.X ∧ (frm R'.X = R'.X.i ∨ R'.X.tk.length ≤ frm R'.X) := by
  unfold frm
  rw [if_pos x2]
  rcases x3 with k | k
  ·rw [if_pos k.1]; exact ⟨Nat.le_refl _,.inl rfl⟩
  ·rw [if_neg (by omega),if_pos k.1]
   exact ⟨by rw [x4,x6,full]; omega,.inr (Nat.le_refl _)⟩
 have hd : ∀ q,Hd R'.X q ↔ (Hd R.X q ∧ q ≠ at0 R.X.rows (R.X.i : Int)) := by
  intro q
  constructor
  ·rintro ⟨j,a,b,c⟩
   rw [x6] at b
   rw [x7] at c
   refine ⟨⟨j,by rw [hf]; omega,b,c⟩,fun e9 => ?_⟩
   have := at_inj L.nd (i := j) (j := R.X.i) (by rw [← full]; exact b) e5 (by rw [c,e9])
   omega
  ·rintro ⟨⟨j,a,b,c⟩,e9⟩
   rw [hf] at a
   have hj : j ≠ R.X.i := fun e10 => e9 (by rw [← c,e10])
   refine ⟨j, ?_,by rw [x6]; exact b,by rw [x7]; exact c⟩
   rcases hf'.2 with k | k
   ·rw [k,x4]; omega
   ·rcases x3 with z | z
    ·rcases hf'.2 with k2 | k2
     ·rw [k2,x4]; omega
     ·unfold frm
      rw [if_pos x2,if_pos z.1,x4]; omega
    ·omega
 rw [← hR']
 rw [hW] at mi ⊢
 refine Q.gave hR x8 T mi e1 e2 e3 ⟨R.X.i,by rw [hf]; exact Nat.le_refl _,by rw [full]; exact e5,rfl⟩ x1 x5 hd ?_
 obtain ⟨_,t2,t3,t4,t5⟩ := T
 exact {
  hd := fun j a b => by
   rw [x6] at b ⊢
   rw [x7,x8]
   have hj : R.X.i + 1 ≤ j := by rw [← x4]; exact Nat.le_trans hf'.1 a
   obtain ⟨k1,k2,k3,k4,k5⟩ := L.hd j (by rw [hf]; omega) b
   refine ⟨k1,k2, ?_,k4,k5⟩
   rw [t3 _ k4 k5 fun e9 => ?_]
   ·exact k3
   ·have := at_inj L.nd (i := j) (j := R.X.i) (by rw [← full]; exact b) e5 e9
    omega
  nd := by rw [x7]; exact L.nd
  st := fun a => by have a := a.1; rw [x1] at a; exact vac 2 1 a
  sn := fun a => by rw [x1] at a; exact vac 2 1 a
  full := fun _ _ _ => by rw [x6,x7]; exact full
  km := fun a => by rw [x1] at a; exact vac 2 1 a
  mkd := fun _ _ a => by
   have := L.mkd e2 (by rw [e3]; decide) (by rw [e3]; decide)
   refine ⟨fun j b c => ?_,by rw [x5,t4]; exact this.2⟩
   rw [x6] at c ⊢
   rw [x5]
   exact this.1 j (by rw [hf]; have := Nat.le_trans hf'.1 b; omega) c
  ms := fun a => by rw [x1] at a; exact vac 2 1 a
  bg := fun a => by rw [x2] at a; exact vac 4 1 a
  va := fun _ a => by omega
  rdh := fun a => by have a := a.1; rw [x1] at a; exact vac 2 1 a
  ww := fun a => by rw [x1] at a; exact vac 2 1 a
  wr := fun _ _ _ => by rw [x9,x7]; exact L.wr e2 (by rw [e3]; decide) (by rw [e3]; decide)
  pe := fun _ _ a x hx hh τ hτ => by
   rw [x9] at hx hh ⊢
   rw [x5] at hτ
   have old := L.pe e1 e2 (.inr e3) x hx ((hd _).1 hh).1 τ hτ
   rw [old,if_neg (fun z => by have := z.1; omega),if_neg (fun z => by have := z.1; omega),t5 _ (at3_data hS.wd hx)]
  dn := fun _ _ _ d hdd hh hn2 τ hτ => by
   rw [x9] at hn2
   rw [x5] at hτ
   rw [t5 d hdd]
   exact L.dn e1 e2 (.inr e3) d hdd ((hd _).1 hh).1 hn2 τ hτ }
theorem sys_e (Q : Sys n R.X.W h u) (hR : u t = some R) (hS : SB R.X) (e1 : R.X.life = 2) (e2 : R.X.job = 4) (e3 : R.X.part = 11) (mi : MI (n + 1) (stepX R.X).W) (i : Nat) (busy : Bool) (en : Int) (rd : List Wo) : Sys (n + 1) (stepX R.X).W h (upd u t { R with X := stepX R.X,i := i,busy := busy,end_ := en,rd := rd }) := by
 have L := Q.lo t R hR
 have hth := hS.th
 have e : stepX R.X = { stX (11 + 2 * R.X.th) 0 R.X with ph := false,stamp := bif gtB ((R.X.ws.length : Int)) (0) then R.X.made else R.X.stamp,job := 0,code := 1 } := by
  unfold stepX endX
  rw [if_neg (by rw [e2]; decide),if_neg (by rw [e2]; decide),if_pos e2,if_neg (by rw [e3]; decide),if_neg (by rw [e3]; decide),if_neg (by rw [e3]; decide),if_neg (by rw [e3]; decide),if_neg (by rw [e3]; decide),if_neg (by rw [e3]; decide),if_neg (by rw [e3]; decide)]
 rw [e] at mi ⊢
 have A : Alike R.X.W (R.X.W.set (11 + 2 * R.X.th).toNat 0) := alike_hi Q.mi.len (by omega) (by omega) fun d hd => by rcases hd with e | e | e | e <;> omega
 have no : ∀ r,¬Hd R.X r := by
  rintro r ⟨j,a,b,_⟩
  unfold frm at a
  rw [if_pos e2,if_neg (by rw [e3]; decide),if_pos e3] at a
  omega
 refine (Q.alike A mi).quiet hR rfl (fun r => ⟨fun a => absurd a (no_hd0 (.inl rfl) r),fun a => absurd a (no r)⟩) (fun r a => absurd a (no r)) (Lo.over (by show ¬R.X.life = 1; rw [e1]; decide) rfl L.nd) (fun _ _ _ _ _ _ r a => absurd a (no_hd0 (.inl rfl) r)) (fun a => vac 2 1 (e1.symm.trans a.1)) (fun a => vac 2 1 (e1.symm.trans a.1)) (fun a => vac 2 1 (e1.symm.trans a.1))
theorem sys_u (Q : Sys n R.X.W h u) (hR : u t = some R) (hS : SB R.X) (e1 : R.X.life = 3) (e2 : R.X.job = 5) (e3 : R.X.part = 0) (p0 : marked R.X) (mi : MI (n + 1) (stepX R.X).W) (i : Nat) (busy : Bool) (en : Int) : Sys (n + 1) (stepX R.X).W h (upd u t { R with X := stepX R.X,i := i,busy := busy,end_ := en }) := by
 have L := Q.lo t R hR
 have hth := hS.th
 have hf : frm R.X = R.X.i := by unfold frm; rw [if_neg (by rw [e2]; decide),if_pos e2]
 have e : stepX R.X = bif ltB ((R.X.i : Int)) ((R.X.tk.length : Int)) then { stX (at3 R.X.tk (R.X.i : Int)).pl (at3 R.X.tk (R.X.i : Int)).vl R.X with i := R.X.i + 1,code := 0 } else { stX (11 + 2 * R.X.th) 0 R.X with ph := false,job := 0,code := 2 } := by
  unfold stepX
  rw [if_neg (by rw [e2]; decide),if_neg (by rw [e2]; decide),if_neg (by rw [e2]; decide)]
 rw [e] at mi ⊢
 cases hb : ltB ((R.X.i : Int)) ((R.X.tk.length : Int)) with
 | true =>
  have hl := of_decide_eq_true hb
  have hl : R.X.i < R.X.tk.length := by omega
  rw [hb,cond_true] at mi
  rw [cond_true]
  obtain ⟨k1,k2,k3,k4,k5⟩ := L.hd R.X.i (by rw [hf]; exact Nat.le_refl _) hl
  have ht := (p0.2.2.at_ R.X.i hl).1
  have rl := p0.2.2.len
  have T : Turn R.X.W (R.X.W.set (at3 R.X.tk (R.X.i : Int)).pl.toNat (at3 R.X.tk (R.X.i : Int)).vl) (at0 R.X.rows (R.X.i : Int)) (at3 R.X.tk (R.X.i : Int)).vl := by
   rw [ht]
   exact turn_set Q.mi.len k4 k5
  have held : Hd R.X (at0 R.X.rows (R.X.i : Int)) := ⟨R.X.i,by rw [hf]; exact Nat.le_refl _,hl,rfl⟩
  have T' := T
  obtain ⟨_,t2,t3,t4,t5⟩ := T'
  refine Q.mark hR rfl T mi (by rw [k3]; omega) (fun k S hk hu x => hk (Q.one hu hR x held)) (fun q hq => ?_) (.inr k1) ⟨by show ¬R.X.life = 2; rw [e1]; decide,by rw [e1]; decide⟩ (Lo.back e1 e2 L.nd fun j a b => ?_) (fun a => vac 3 1 (e1.symm.trans a.1)) (by show ¬R.X.job = 2; rw [e2]; decide) (fun S x => ?_)
  ·constructor
   ·rintro ⟨j,a,b,c⟩
    refine ⟨j, ?_,b,c⟩
    rw [hf]
    unfold frm at a
    rw [if_neg (by show ¬R.X.job = 4; rw [e2]; decide),if_pos (by exact e2)] at a
    have a : R.X.i + 1 ≤ j := a
    omega
   ·rintro ⟨j,a,b,c⟩
    refine ⟨j, ?_,b,c⟩
    rw [hf] at a
    unfold frm
    rw [if_neg (by show ¬R.X.job = 4; rw [e2]; decide),if_pos (by exact e2)]
    show R.X.i + 1 ≤ j
    have : j ≠ R.X.i := fun e9 => hq (by rw [← c,e9])
    omega
  ·have a : R.X.i + 1 ≤ j := a
   have b : j < R.X.tk.length := b
   obtain ⟨g1,g2,g3,g4,g5⟩ := L.hd j (by rw [hf]; omega) b
   refine ⟨g1,g2, ?_,g4,g5⟩
   show sv (R.X.W.set _ _) (at0 R.X.rows (j : Int)) = _
   rw [t3 _ g4 g5 fun e9 => ?_]
   ·exact g3
   ·have := at_inj L.nd (i := j) (j := R.X.i) (by omega) (by omega) e9
    omega
  ·rcases x with x | x
   ·exact vac 3 1 (e1.symm.trans x.1)
   ·exact vac 5 4 (e2.symm.trans x.1)
 | false =>
  have hl := of_decide_eq_false hb
  rw [hb,cond_false] at mi
  rw [cond_false]
  have A : Alike R.X.W (R.X.W.set (11 + 2 * R.X.th).toNat 0) := alike_hi Q.mi.len (by omega) (by omega) fun d hd => by rcases hd with e | e | e | e <;> omega
  have no : ∀ r,¬Hd R.X r := by
   rintro r ⟨j,a,b,_⟩
   rw [hf] at a
   omega
  refine (Q.alike A mi).quiet hR rfl (fun r => ⟨fun a => absurd a (no_hd0 (.inl rfl) r),fun a => absurd a (no r)⟩) (fun r a => absurd a (no r)) (Lo.over (by show ¬R.X.life = 1; rw [e1]; decide) rfl L.nd) (fun _ _ _ _ _ _ r a => absurd a (no_hd0 (.inl rfl) r)) (fun a => vac 3 1 (e1.symm.trans a.1)) (fun a => vac 3 1 (e1.symm.trans a.1)) (fun a => vac 3 1 (e1.symm.trans a.1))
end Go.Proofs.Ytmjjljngaefpaaa

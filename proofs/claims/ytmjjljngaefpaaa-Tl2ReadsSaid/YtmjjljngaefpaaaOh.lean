/- Opacity: the clock's bump, a look of the check. -/
import Derived.Test.YtmjjljngaefpaaaOg
namespace Go.Proofs.Ytmjjljngaefpaaa
open Go.RowKit Go.Am Go.Sy
open Go.IntKind (i64 u64)
set_option linter.unusedVariables false
theorem upd_upd (u : US) (t : Int) (R S : RM) : upd (upd u t R) t S = upd u t S := by
 funext k
 unfold upd
 by_cases e : k = t
 ·rw [if_pos e,if_pos e]
 ·rw [if_neg e,if_neg e,if_neg e]
variable {n : Nat} {h : Int → Int → Int} {u : US} {t : Int} {R : RM}
theorem bump_sys {W W' : List Int} (Q : Sys n W h u) (hR : u t = some R) (hS : SB R.X) (hn : n + 1 ≤ 1000) (e1 : R.X.life = 1) (e2 : R.X.job = 4) (e3 : R.X.part = 7) (hne : R.X.ws ≠ []) (mi : MI (n + 1) W') (v : Int) (s : XM)
 (hc0 : at0 W 0 ≤ at0 W' 0) (hs : ∀ r,0 ≤ r → r < 3 → sv W' r = sv W r) (hdat : ∀ d,isData d → at0 W' d = at0 W d) (hv : v ≤ at0 W' 0) (hver : ∀ j : Nat,j < R.X.tk.length → (at3 R.X.tk (j : Int)).vl / 16 < v) (hst : R.X.stamp ≤ v)
 (p1 : ∀ k S,k ≠ t → u k = some S → alv S.X → v ≤ S.X.stamp → ∀ r,Hd R.X r → ¬RdS S.X r)
 (x : s.life = 1 ∧ s.job = 4 ∧ s.th = R.X.th ∧ s.tk = R.X.tk ∧ s.rows = R.X.rows ∧ s.rs = R.X.rs ∧ s.ws = R.X.ws ∧ s.stamp = R.X.stamp ∧ s.ph = true ∧ s.c = R.X.c) : ∃ h',Sys (n + 1) W' h' (upd u t { R with X := buX v s }) := by
 obtain ⟨x1,x2,x3,x4,x5,x6,x7,x8,x9,x0⟩ := x
 have L := Q.lo t R hR
 have hal : alv R.X := ⟨e1,by rw [e2]; decide⟩
 have hf : frm R.X = 0 := frm4 e2 (by rw [e3]; decide) (by rw [e3]; decide)
 have full := L.full e2 (by rw [e3]; decide) (by rw [e3]; decide)
 obtain ⟨R1,hR1⟩ : ∃ R1 : RM,R1 = { R with X := { s with bst := 9,bsp := v,ybst := 9,ybsp := v,made := v,part := 8,i := 0 } } := ⟨_,rfl⟩
 have y : R1.X.life = 1 ∧ R1.X.job = 4 ∧ R1.X.part = 8 ∧ R1.X.th = R.X.th ∧ R1.X.tk = R.X.tk ∧ R1.X.rows = R.X.rows ∧ R1.X.rs = R.X.rs ∧ R1.X.ws = R.X.ws ∧ R1.X.stamp = R.X.stamp ∧ R1.X.ph = true ∧ R1.X.made = v ∧ R1.X.i = 0 ∧ R1.X.c = R.X.c := by
  subst hR1
  exact ⟨x1,x2,rfl,x3,x4,x5,x6,x7,x8,x9,rfl,rfl,x0⟩
 have z : R1.rd = R.rd ∧ R1.f = R.f ∧ R1.g = R.g ∧ R1.m = R.m := by subst hR1; exact ⟨rfl,rfl,rfl,rfl⟩
 obtain ⟨y1,y2,y3,y4,y5,y6,y7,y8,y9,y10,y11,y12,y13⟩ := y
 have hf1 : frm R1.X = 0 := frm4 y2 (by rw [y3]; decide) (by rw [y3]; decide)
 have hd : ∀ q,Hd R1.X q ↔ Hd R.X q := by intro q; unfold Hd; rw [hf,hf1,y5,y6]
 have Q1 : Sys (n + 1) W' h (upd u t R1) := by
  refine Q.bump hR y4 hc0 hs hdat mi e1 y1 y2 hd ?_ (fun k S hk hu ha hp r hr => ?_) hal y9 (fun q x => ?_)
  ·exact {
    hd := fun j _ b => by
     rw [y5] at b ⊢
     rw [y6,y4]
     obtain ⟨k1,k2,k3,k4,k5⟩ := L.hd j (by rw [hf]; exact Nat.zero_le _) b
     exact ⟨k1,k2,by rw [hs _ k4 k5]; exact k3,k4,k5⟩
    nd := by rw [y6]; exact L.nd
    st := fun _ => by rw [y9]; exact ⟨(L.st hal).1,Int.le_trans (L.st hal).2 hc0⟩
    sn := fun _ _ a => by rw [y3] at a; exact vac 8 6 a
    full := fun _ _ _ => by rw [y5,y6]; exact full
    km := fun _ _ a => by rw [y3] at a; exact vac 8 7 a
    mkd := fun _ _ _ => ⟨fun j _ b => by rw [y5] at b ⊢; rw [y11]; exact hver j b,by rw [y11]; exact hv⟩
    ms := fun _ _ _ => by rw [y9,y11]; exact hst
    bg := fun a => by rw [y2] at a; exact vac 4 1 a
    va := fun _ _ x hx => by rw [y12] at hx; cases hx
    rdh := fun _ => by rw [z.1,y9,y7]; exact L.rdh hal
    ww := fun _ _ => by
     rcases L.ww e1 e2 with k | ⟨a,b,k1,k2,k3⟩
     ·exact .inl (by rw [y8]; exact k)
     ·exact .inr ⟨a,b,by rw [z.1,z.2.1,z.2.2.1]; exact k1,by rw [y8,z.2.1,z.2.2.1,z.2.2.2]; exact k2,by rw [z.2.1,z.2.2.1]; exact k3⟩
    wr := fun _ _ _ => by rw [y8,y6]; exact L.wr e2 (by rw [e3]; decide) (by rw [e3]; decide)
    pe := fun a => by rw [y1] at a; exact vac 1 2 a
    dn := fun a => by rw [y1] at a; exact vac 1 2 a }
  ·refine p1 k S hk hu ha ?_ r ((hd r).1 hr)
   rcases hp with x | x
   ·have := x.2.2.1; rw [y3] at this; exact vac 8 7 this
   ·rw [← y11]; exact x.2.2
  ·rcases x with ⟨w,hw,ex⟩ | ⟨x,_⟩
   ·rw [y7] at hw; exact .inl ⟨w,hw,ex⟩
   ·rw [y2] at x; exact vac 4 2 x
 have hS1 : SB R1.X := ⟨by rw [y4]; exact hS.th,by rw [y13]; exact hS.c,by rw [y8]; exact hS.wd,by rw [y8]; exact hS.wn,by rw [y7]; exact hS.rd,by rw [y7]; exact hS.rn⟩
 unfold buX
 cases hg : gtB v 1000 with
 | true =>
  have := sys_abort (R := R1) Q1 (upd_self _ _ _) (c := 5) (s := { s with bst := 9,bsp := v,ybst := 9,ybsp := v }) hf1 y1 x9 (by rw [y4]; exact x3) (by rw [y5]; exact x4) (by rw [y6]; exact x5) R.i R.busy R.end_
  rw [upd_upd] at this
  refine ⟨h, ?_⟩
  subst hR1
  exact this
 | false =>
  obtain ⟨h',this⟩ := go_sys (R := R1) Q1 (upd_self _ _ _) hS1 mi hn y1 y2 y3 (by rw [y8]; exact hne) (kI := 0) (by rw [y12]; rfl)
  rw [upd_upd] at this
  refine ⟨h', ?_⟩
  subst hR1
  exact this
theorem abX_W (c : Int) (s : XM) : (abX c s).W = s.W := by
 cases hp : s.ph with
 | true => rw [abX_t hp]
 | false => rw [abX_f hp]
theorem goX_W (k : Nat) (kI : Int) (s : XM) : (goX k kI s).W = s.W := by
 unfold goX
 cases ltB kI (s.rs.length : Int) with
 | false => rfl
 | true => cases (eqB s.bk 1 && (s.made == i64.wrap (s.stamp + 1))) <;> rfl
theorem buX_W (v : Int) (s : XM) : (buX v s).W = s.W := by
 unfold buX
 cases gtB v 1000 with
 | true => rw [cond_true,abX_W]
 | false => rw [cond_false,goX_W]
theorem set0 {W : List Int} (hW : W.length = 34) {v : Int} : (at0 (W.set 0 v) 0 = v) ∧ (∀ r,0 ≤ r → r < 3 → sv (W.set 0 v) r = sv W r) ∧ ∀ d,isData d → at0 (W.set 0 v) d = at0 W d := by
 have hs : ∀ b : Int,0 ≤ b → b < 34 → at0 (W.set 0 v) b = if 0 = b then v else at0 W b := fun b b0 b1 => at0_set (a := 0) hW (by omega) (by omega) b0 b1
 refine ⟨by rw [hs 0 (by decide) (by decide),if_pos rfl],fun r h0 h1 => ?_,fun d hd => ?_⟩
 ·show at0 _ (2 + r) = _
  rw [hs _ (by omega) (by omega),if_neg (by omega)]
 ·have := data_lt hd
  rw [hs _ this.1 this.2,if_neg (by rcases hd with e | e | e | e <;> omega)]
theorem held_ver {W : List Int} (Q : Sys n W h u) (hR : u t = some R) (hth : 0 ≤ R.X.th ∧ R.X.th < 3) {j : Nat} (hj : frm R.X ≤ j) (hl : j < R.X.tk.length) : (at3 R.X.tk (j : Int)).vl / 16 ≤ at0 W 0 := by
 obtain ⟨k1,k2,k3,k4,k5⟩ := (Q.lo t R hR).hd j hj hl
 have := Q.vc _ k4 k5
 omega
theorem sys_o (Q : Sys n R.X.W h u) (hR : u t = some R) (hS : SB R.X) (hn : n + 1 ≤ 1000) (e1 : R.X.life = 1) (e2 : R.X.job = 4) (e3 : R.X.part = 7) (p0 : marked R.X) (hne : R.X.ws ≠ []) (hbk : R.X.bk = R.X.c) (hb0 : R.X.bst = 0) (mi : MI (n + 1) (stepX R.X).W) : ∃ h',Sys (n + 1) (stepX R.X).W h' (upd u t { R with X := stepX R.X }) := by
 have L := Q.lo t R hR
 have hal : alv R.X := ⟨e1,by rw [e2]; decide⟩
 have hst := L.st hal
 have hf : frm R.X = 0 := frm4 e2 (by rw [e3]; decide) (by rw [e3]; decide)
 have hck := Q.mi.clk
 have e : stepX R.X = bumpX R.X := by unfold stepX; rw [if_neg (by rw [e2]; decide),if_neg (by rw [e2]; decide),if_pos e2,if_neg (by rw [e3]; decide),if_neg (by rw [e3]; decide),if_neg (by rw [e3]; decide),if_pos e3]
 have hw1 : i64.wrap (at0 R.X.W 0 + 1) = at0 R.X.W 0 + 1 := wrap_id (by omega) (by omega)
 rw [e] at mi ⊢
 unfold bumpX at mi ⊢
 rcases hS.c with ec | ec
 ·rw [if_pos (by rw [hbk]; exact ec),hw1] at mi ⊢
  have hWb : (buX (at0 R.X.W 0 + 1) (adX (at0 R.X.W 0 + 1) R.X)).W = R.X.W.set 0 (at0 R.X.W 0 + 1) := by
   rw [buX_W]
   rfl
  rw [hWb] at mi ⊢
  obtain ⟨g1,g2,g3⟩ := set0 Q.mi.len (v := at0 R.X.W 0 + 1)
  exact bump_sys Q hR hS hn e1 e2 e3 hne mi (at0 R.X.W 0 + 1) (adX (at0 R.X.W 0 + 1) R.X) (by rw [g1]; omega) g2 g3 (by rw [g1]; exact Int.le_refl _) (fun j hj => by have := held_ver Q hR hS.th (by rw [hf]; exact Nat.zero_le _) hj; omega) (by omega)
   (fun k S hk hu ha hv => by have := ((Q.lo k S hu).st ha).2; omega) ⟨e1,e2,rfl,rfl,rfl,rfl,rfl,rfl,p0.1,rfl⟩
 ·rw [if_neg (by rw [hbk,ec]; decide),if_pos hb0] at mi ⊢
  refine ⟨h,Sys.mono (Q.quiet hR rfl (fun q => ?_) (fun r _ => .inr ⟨by show ¬R.X.life = 2; rw [e1]; decide,by rw [e1]; decide⟩) (Lo.lock e1 e2 (by show (5 : Int) ≤ R.X.part ∧ R.X.part ≤ 7; omega) L.nd (fun j a => L.hd j (by rw [hf]; exact Nat.zero_le _) a) hst (fun a => by have a : R.X.part = 6 := a; omega) (fun _ => L.full e2 (by omega) (by omega)) (fun _ _ => ⟨fun j a => held_ver Q hR hS.th (by rw [hf]; exact Nat.zero_le _) a,hst.2,Int.le_refl _⟩) (L.rdh hal) (L.ww e1 e2) (L.wr e2 (by omega) (by omega))) (fun k S hk hu ha hp r hr => ?_) (fun _ k S hk hu hp r hr x => ?_) (fun _ a => vac 4 2 (e2.symm.trans a)) (fun _ a => vac 4 2 (e2.symm.trans a)))⟩
  ·constructor
   ·rintro ⟨j,_,b,c⟩
    exact ⟨j,by first | (rw [hf]; exact Nat.zero_le _) | exact le_fr (frm4 (by exact e2) (by show ¬R.X.part = 10; omega) (by show ¬R.X.part = 11; omega)) (Nat.zero_le _),b,c⟩
   ·rintro ⟨j,_,b,c⟩
    exact ⟨j,by first | (rw [hf]; exact Nat.zero_le _) | exact le_fr (frm4 (by exact e2) (by show ¬R.X.part = 10; omega) (by show ¬R.X.part = 11; omega)) (Nat.zero_le _),b,c⟩
  ·have hl := ((Q.lo k S hu).st ha).2
   rcases hp with x | ⟨_,x,_⟩
   ·have : at0 R.X.W 0 < S.X.stamp := x.2.2.2.2
    omega
   ·have x : R.X.part = 8 ∨ R.X.part = 9 ∨ R.X.part = 10 := x
    omega
  ·refine Q.pa k S t R hu hR hk hal hp r hr ?_
   rcases x with x | ⟨x,_⟩
   ·exact .inl x
   ·exact vac 4 2 (e2.symm.trans x)
end Go.Proofs.Ytmjjljngaefpaaa

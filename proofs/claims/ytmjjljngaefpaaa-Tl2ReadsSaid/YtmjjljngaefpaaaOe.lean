/- Opacity: begun, read, marked, locked: what is kept. -/
import Derived.Test.YtmjjljngaefpaaaOd
namespace Go.Proofs.Ytmjjljngaefpaaa
open Go.RowKit Go.Am Go.Sy
open Go.IntKind (i64 u64)
set_option linter.unusedVariables false
theorem vac (x y : Int) {p : Prop} (h : x = y) (hne : ¬x = y := by decide) : p := absurd h hne
theorem abX_f {s : XM} {c : Int} (hp : s.ph = false) : abX c s = { s with life := 3,cause := c,made := 0,job := 0,part := 0,i := 0,code := 2 } := by
 unfold abX
 generalize ({ s with life := 3,cause := c,made := 0,job := 0,part := 0,i := 0,code := 2 } : XM) = x
 generalize ({ s with life := 3,cause := c,made := 0,job := 5,part := 0,i := 0,code := 0 } : XM) = y
 rw [hp]
 rfl
theorem abX_t {s : XM} {c : Int} (hp : s.ph = true) : abX c s = { s with life := 3,cause := c,made := 0,job := 5,part := 0,i := 0,code := 0 } := by
 unfold abX
 generalize ({ s with life := 3,cause := c,made := 0,job := 0,part := 0,i := 0,code := 2 } : XM) = x
 generalize ({ s with life := 3,cause := c,made := 0,job := 5,part := 0,i := 0,code := 0 } : XM) = y
 rw [hp]
 rfl
theorem Alike.refl (W : List Int) : Alike W W := ⟨fun _ _ _ => rfl,fun _ _ => rfl⟩
theorem Sys.mono {n : Nat} {W : List Int} {h : Int → Int → Int} {u : US} (Q : Sys n W h u) : Sys (n + 1) W h u := Q.alike (Alike.refl W) Q.mi.mono
theorem frm0 {s : XM} (h : s.job = 0 ∨ s.job = 1 ∨ s.job = 2) : frm s = s.tk.length := by
 unfold frm
 rw [if_neg (by omega),if_neg (by omega)]
theorem frm4 {s : XM} (h : s.job = 4) (h1 : s.part ≠ 10) (h2 : s.part ≠ 11) : frm s = 0 := by
 unfold frm
 rw [if_pos h,if_neg h1,if_neg h2]
theorem no_hd {s : XM} (h : s.tk = []) (r : Int) : ¬Hd s r := by
 rintro ⟨j,_,h2,_⟩
 rw [h] at h2
 cases h2
theorem no_hd0 {s : XM} (h : s.job = 0 ∨ s.job = 1 ∨ s.job = 2) (r : Int) : ¬Hd s r := by
 rintro ⟨j,h1,h2,_⟩
 rw [frm0 h] at h1
 omega
theorem Lo.over {W : List Int} {h : Int → Int → Int} {R : RM} (hl : R.X.life ≠ 1) (hj : R.X.job = 0) (nd : R.X.rows.Nodup) : Lo W h R where
 hd := fun j a b => by rw [frm0 (.inl hj)] at a; omega
 nd := nd
 st := fun a => absurd a.1 hl
 sn := fun a => absurd a hl
 full := fun a => by rw [hj] at a; exact vac 0 4 a
 km := fun a => absurd a hl
 mkd := fun a => by rw [hj] at a; exact vac 0 4 a
 ms := fun a => absurd a hl
 bg := fun a => by rw [hj] at a; exact vac 0 1 a
 va := fun a => by rw [hj] at a; exact vac 0 4 a
 rdh := fun a => absurd a.1 hl
 ww := fun a => absurd a hl
 wr := fun a => by rw [hj] at a; exact vac 0 4 a
 pe := fun _ a => by rw [hj] at a; exact vac 0 4 a
 dn := fun _ a => by rw [hj] at a; exact vac 0 4 a
theorem Lo.back {W : List Int} {h : Int → Int → Int} {R' : RM} (hl : R'.X.life = 3) (hj : R'.X.job = 5) (nd : R'.X.rows.Nodup)
 (hd : ∀ j : Nat,R'.X.i ≤ j → j < R'.X.tk.length → (at3 R'.X.tk (j : Int)).vl % 16 = 0 ∧ 0 ≤ (at3 R'.X.tk (j : Int)).vl ∧ sv W (at0 R'.X.rows (j : Int)) = (at3 R'.X.tk (j : Int)).vl + R'.X.th + 1 ∧ 0 ≤ at0 R'.X.rows (j : Int) ∧ at0 R'.X.rows (j : Int) < 3) : Lo W h R' where
 hd := fun j a b => hd j (by unfold frm at a; rw [if_neg (by rw [hj]; decide),if_pos hj] at a; exact a) b
 nd := nd
 st := fun a => by have a := a.1; rw [hl] at a; exact vac 3 1 a
 sn := fun a => by rw [hl] at a; exact vac 3 1 a
 full := fun a => by rw [hj] at a; exact vac 5 4 a
 km := fun a => by rw [hl] at a; exact vac 3 1 a
 mkd := fun a => by rw [hj] at a; exact vac 5 4 a
 ms := fun a => by rw [hl] at a; exact vac 3 1 a
 bg := fun a => by rw [hj] at a; exact vac 5 1 a
 va := fun a => by rw [hj] at a; exact vac 5 4 a
 rdh := fun a => by have a := a.1; rw [hl] at a; exact vac 3 1 a
 ww := fun a => by rw [hl] at a; exact vac 3 1 a
 wr := fun a => by rw [hj] at a; exact vac 5 4 a
 pe := fun a => by rw [hl] at a; exact vac 3 2 a
 dn := fun a => by rw [hl] at a; exact vac 3 2 a
theorem Lo.calmed {W : List Int} {h : Int → Int → Int} {R : RM} (hj : R.X.job = 0 ∨ R.X.job = 2) (nd : R.X.rows.Nodup) (st : alv R.X → 0 ≤ R.X.stamp ∧ R.X.stamp ≤ at0 W 0)
 (rdh : alv R.X → ∀ w ∈ R.rd,isData (26 + 2 * w.pl) ∧ w.vl = h R.X.stamp (26 + 2 * w.pl) ∧ ∃ x ∈ R.X.rs,x.pl = hashT (26 + 2 * w.pl)) : Lo W h R where
 hd := fun j a b => by rw [frm0 (by omega)] at a; omega
 nd := nd
 st := st
 sn := fun _ a => by omega
 full := fun a => by omega
 km := fun _ a => by omega
 mkd := fun a => by omega
 ms := fun _ a => by omega
 bg := fun a => by omega
 va := fun a => by omega
 rdh := rdh
 ww := fun _ a => by omega
 wr := fun a => by omega
 pe := fun _ a => by omega
 dn := fun _ a => by omega
theorem Sys.idle {n : Nat} {W : List Int} {h : Int → Int → Int} {u : US} (Q : Sys n W h u) {t : Int} {R R' : RM} (hR : u t = some R) (hth : R'.X.th = R.X.th) (n1 : ∀ r,¬Hd R.X r) (n2 : ∀ r,¬Hd R'.X r) (lo : Lo W h R')
 (p2 : alv R'.X → ∀ t' S,t' ≠ t → u t' = some S → Pro S.X R'.X.stamp → ∀ r,Hd S.X r → ¬RdS R'.X r)
 (r1 : alv R'.X → R'.X.job = 2 → R'.X.part ≠ 0 → (isData R'.X.at_ ∧ R'.X.row = hashT R'.X.at_) ∧ R'.X.seen % 16 = 0 ∧ R'.X.seen / 16 ≤ R'.X.stamp ∧ R'.X.seen / 16 ≤ sv W R'.X.row / 16 ∧ ∀ t' S,u t' = some S → S.X.life = 2 → Hd S.X R'.X.row → R'.X.seen / 16 < S.X.made)
 (r2 : alv R'.X → R'.X.job = 2 → R'.X.part = 2 → calm u R'.X.row → sv W R'.X.row / 16 = R'.X.seen / 16 → R'.X.val = h R'.X.stamp R'.X.at_) : Sys (n + 1) W h (upd u t R') :=
 (Q.quiet hR hth (fun r => ⟨fun a => absurd a (n2 r),fun a => absurd a (n1 r)⟩) (fun r a => absurd a (n1 r)) lo (fun _ _ _ _ _ _ r a => absurd a (n2 r)) p2 r1 r2).mono
variable {n : Nat} {h : Int → Int → Int} {u : US} {t : Int} {R : RM}
theorem sys_b (Q : Sys n R.X.W h u) (hR : u t = some R) (e1 : R.X.life = 1) (e2 : R.X.job = 1) (p0 : clear R.X) : Sys (n + 1) (stepX R.X).W h (upd u t { R with X := stepX R.X }) := by
 have L := Q.lo t R hR
 obtain ⟨b1,b2⟩ := L.bg e2
 have e : stepX R.X = { ldX 0 R.X with stamp := at0 R.X.W 0,job := 0,code := 1 } := by unfold stepX; rw [if_pos e2]
 rw [e]
 refine Q.idle hR rfl (no_hd p0.2.1) (no_hd p0.2.1) (Lo.calmed (.inl rfl) L.nd (fun _ => ⟨Q.mi.clk.1,Int.le_refl _⟩) fun _ w hw => ?_) (fun _ k S _ _ _ r _ x => ?_) (fun _ a => vac 0 2 a) (fun _ a => vac 0 2 a)
 ·have hw : w ∈ R.rd := hw
  rw [b2] at hw
  cases hw
 ·rcases x with ⟨w,hw,_⟩ | ⟨a,_⟩
  ·have hw : w ∈ R.X.rs := hw
   rw [b1] at hw
   cases hw
  ·exact vac 0 2 a
theorem fresh_is {x s : Int} (hx : 0 ≤ x) (hf : (freshT x s != 0) = false) : x % 16 = 0 ∧ x / 16 ≤ s := by
 have hf : freshT x s = 0 := by simpa using hf
 unfold freshT at hf
 split at hf
 ·exact vac 1 0 hf
 ·split at hf
  ·exact vac 2 0 hf
  ·omega
theorem sys_r0 (Q : Sys n R.X.W h u) (hR : u t = some R) (e1 : R.X.life = 1) (e2 : R.X.job = 2) (e3 : R.X.part = 0) (p0 : clear R.X) (e7 : isData R.X.at_) (e8 : R.X.row = hashT R.X.at_) : Sys (n + 1) (stepX R.X).W h (upd u t { R with X := stepX R.X }) := by
 have L := Q.lo t R hR
 have hal : alv R.X := ⟨e1,by rw [e2]; decide⟩
 have hg := hash_ge e7
 rw [← e8] at hg
 have hs := Q.mi.str _ hg.1 hg.2
 have e : stepX R.X = bif (freshT (at0 R.X.W (2 + R.X.row)) R.X.stamp != 0) then abX (freshT (at0 R.X.W (2 + R.X.row)) R.X.stamp) { ldX (2 + R.X.row) R.X with seen := at0 R.X.W (2 + R.X.row) } else { ldX (2 + R.X.row) R.X with seen := at0 R.X.W (2 + R.X.row),part := 1,code := 0 } := by
  unfold stepX readX'
  rw [if_neg (by rw [e2]; decide),if_pos e2,if_pos e3]
 rw [e]
 cases hb : (freshT (at0 R.X.W (2 + R.X.row)) R.X.stamp != 0) with
 | true =>
  rw [cond_true,abX_f (show ({ ldX (2 + R.X.row) R.X with seen := at0 R.X.W (2 + R.X.row) } : XM).ph = false from p0.1)]
  exact Q.idle hR rfl (no_hd p0.2.1) (no_hd p0.2.1) (Lo.over (show ¬(3 : Int) = 1 by decide) rfl L.nd) (fun a => vac 3 1 a.1) (fun a => vac 3 1 a.1) (fun a => vac 3 1 a.1)
 | false =>
  obtain ⟨f1,f2⟩ := fresh_is hs.1 hb
  rw [cond_false]
  refine Q.idle hR rfl (no_hd p0.2.1) (no_hd p0.2.1) (Lo.calmed (.inr e2) L.nd (fun _ => L.st hal) fun _ => L.rdh hal) (fun _ k S hk hu hp r hr x => ?_) (fun _ _ _ => ⟨⟨e7,e8⟩,f1,f2,Int.le_refl _,fun k S hu _ hh => absurd hh (Q.free f1 hu)⟩) (fun _ _ a => vac 1 2 a)
  rcases x with x | ⟨_,_,x⟩
  ·exact Q.pa k S t R hu hR hk hal hp r hr (.inl x)
  ·have x : R.X.row = r := x
   subst x
   exact Q.free f1 hu hr
theorem sys_r1 (Q : Sys n R.X.W h u) (hR : u t = some R) (e1 : R.X.life = 1) (e2 : R.X.job = 2) (e3 : R.X.part = 1) (p0 : clear R.X) : Sys (n + 1) (stepX R.X).W h (upd u t { R with X := stepX R.X }) := by
 have L := Q.lo t R hR
 have hal : alv R.X := ⟨e1,by rw [e2]; decide⟩
 obtain ⟨k0,k1,k2,k3,k4⟩ := Q.r1 t R hR hal e2 (by rw [e3]; decide)
 have e : stepX R.X = { ldX R.X.at_ R.X with val := at0 R.X.W R.X.at_,part := 2,code := 0 } := by
  unfold stepX readX'
  rw [if_neg (by rw [e2]; decide),if_pos e2,if_neg (by rw [e3]; decide),if_pos e3]
 rw [e]
 refine Q.idle hR rfl (no_hd p0.2.1) (no_hd p0.2.1) (Lo.calmed (.inr e2) L.nd (fun _ => L.st hal) fun _ => L.rdh hal) (fun _ k S hk hu hp r hr x => ?_) (fun _ _ _ => ⟨k0,k1,k2,k3,k4⟩) (fun _ _ _ hc he => ?_)
 ·refine Q.pa k S t R hu hR hk hal hp r hr ?_
  rcases x with x | ⟨_,_,x⟩
  ·exact .inl x
  ·exact .inr ⟨e2,by rw [e3]; decide,x⟩
 ·show at0 R.X.W R.X.at_ = h R.X.stamp R.X.at_
  have hc : calm u R.X.row := hc
  have he : sv R.X.W R.X.row / 16 = R.X.seen / 16 := he
  rw [k0.2] at hc he
  exact (Q.da _ k0.1 hc _ (by rw [he]; exact k2)).symm
theorem sys_r2 (Q : Sys n R.X.W h u) (hR : u t = some R) (e1 : R.X.life = 1) (e2 : R.X.job = 2) (e3 : R.X.part = 2) (p0 : clear R.X) {a : Int} (ha : R.X.at_ = 26 + 2 * a) (rd : List Wo) (hrd : rd = bif ((stepX R.X).code == 1) then R.rd ++ [⟨a,(stepX R.X).value⟩] else R.rd) (i : Nat) (busy : Bool) (en : Int) :
 Sys (n + 1) (stepX R.X).W h (upd u t { R with X := stepX R.X,rd := rd,i := i,busy := busy,end_ := en }) := by
 have L := Q.lo t R hR
 have hal : alv R.X := ⟨e1,by rw [e2]; decide⟩
 obtain ⟨k0,k1,k2,k3,k4⟩ := Q.r1 t R hR hal e2 (by rw [e3]; decide)
 have e : stepX R.X = bif (at0 R.X.W (2 + R.X.row) != R.X.seen) then abX 2 (ldX (2 + R.X.row) R.X) else { ldX (2 + R.X.row) R.X with part := 3,value := R.X.val,rs := bif !hasB R.X.rs R.X.row then R.X.rs ++ [⟨R.X.row,0⟩] else R.X.rs,job := 0,code := 1 } := by
  unfold stepX readX'
  rw [if_neg (by rw [e2]; decide),if_pos e2,if_neg (by rw [e3]; decide),if_neg (by rw [e3]; decide)]
 rw [e] at hrd ⊢
 cases hb : (at0 R.X.W (2 + R.X.row) != R.X.seen) with
 | true =>
  rw [cond_true,abX_f (show (ldX (2 + R.X.row) R.X).ph = false from p0.1)]
  exact Q.idle hR rfl (no_hd p0.2.1) (no_hd p0.2.1) (Lo.over (show ¬(3 : Int) = 1 by decide) rfl L.nd) (fun a => vac 3 1 a.1) (fun a => vac 3 1 a.1) (fun a => vac 3 1 a.1)
 | false =>
  have hsn : at0 R.X.W (2 + R.X.row) = R.X.seen := by simpa using hb
  have hmod : sv R.X.W R.X.row % 16 = 0 := by rw [show sv R.X.W R.X.row = R.X.seen from hsn]; exact k1
  have hcalm : calm u R.X.row := fun k S hu _ hh => Q.free hmod hu hh
  have hval := Q.r2 t R hR hal e2 e3 hcalm (by rw [show sv R.X.W R.X.row = R.X.seen from hsn])
  rw [hb,cond_false] at hrd
  rw [cond_false]
  have hin : ∃ x ∈ (bif !hasB R.X.rs R.X.row then R.X.rs ++ [(⟨R.X.row,0⟩ : Wo)] else R.X.rs),x.pl = R.X.row := by
   cases hh : hasB R.X.rs R.X.row with
   | true =>
    unfold hasB at hh
    obtain ⟨x,hx,e⟩ := List.any_eq_true.1 hh
    exact ⟨x,hx,eq_of_beq e⟩
   | false => exact ⟨⟨R.X.row,0⟩,List.mem_append.2 (.inr List.mem_cons_self),rfl⟩
  have hsub : ∀ x ∈ R.X.rs,x ∈ (bif !hasB R.X.rs R.X.row then R.X.rs ++ [(⟨R.X.row,0⟩ : Wo)] else R.X.rs) := by
   intro x hx
   cases hasB R.X.rs R.X.row with
   | true => exact hx
   | false => exact List.mem_append.2 (.inl hx)
  have hout : ∀ x ∈ (bif !hasB R.X.rs R.X.row then R.X.rs ++ [(⟨R.X.row,0⟩ : Wo)] else R.X.rs),x ∈ R.X.rs ∨ x.pl = R.X.row := by
   intro x hx
   revert hx
   cases hasB R.X.rs R.X.row with
   | true => exact fun hx => .inl hx
   | false =>
    intro hx
    rcases List.mem_append.1 hx with k | k
    ·exact .inl k
    ·exact .inr (by rw [List.mem_singleton.1 k])
  refine Q.idle hR rfl (no_hd p0.2.1) (no_hd p0.2.1) (Lo.calmed (.inl rfl) L.nd (fun _ => L.st hal) fun _ w hw => ?_) (fun _ k S hk hu hp r hr x => ?_) (fun _ a => vac 0 2 a) (fun _ a => vac 0 2 a)
  ·have hw : w ∈ rd := hw
   rw [hrd] at hw
   have hw : w ∈ R.rd ++ [⟨a,R.X.val⟩] := hw
   rcases List.mem_append.1 hw with k | k
   ·obtain ⟨g1,g2,x,g3,g4⟩ := L.rdh hal w k
    exact ⟨g1,g2,x,hsub x g3,g4⟩
   ·rw [List.mem_singleton] at k
    subst k
    obtain ⟨x,hx,ex⟩ := hin
    rw [← ha]
    exact ⟨k0.1,hval,x,hx,by rw [ex]; exact k0.2⟩
  ·refine Q.pa k S t R hu hR hk hal hp r hr ?_
   rcases x with ⟨x,hx,ex⟩ | ⟨x,_⟩
   ·rcases hout x hx with g | g
    ·exact .inl ⟨x,g,ex⟩
    ·exact .inr ⟨e2,by rw [e3]; decide,by rw [← g]; exact ex⟩
   ·exact vac 0 2 x
end Go.Proofs.Ytmjjljngaefpaaa

/- Opacity: a stripe is taken; the clock; the check. -/
import Derived.Test.YtmjjljngaefpaaaOf
namespace Go.Proofs.Ytmjjljngaefpaaa
open Go.RowKit Go.Am Go.Sy
open Go.IntKind (i64 u64)
set_option linter.unusedVariables false
theorem tk_app {l : List Wo} {x : Wo} {j : Nat} (hj : j < (l ++ [x]).length) : (j < l.length ∧ at3 (l ++ [x]) (j : Int) = at3 l (j : Int)) ∨ (j = l.length ∧ at3 (l ++ [x]) (j : Int) = x) := by
 rw [at3_get hj]
 rw [List.length_append] at hj
 have hj : j < l.length + 1 := hj
 rcases Nat.lt_or_ge j l.length with k | k
 ·exact .inl ⟨k,by rw [List.getElem_append_left k,at3_get k]⟩
 ·have : j = l.length := by omega
  subst this
  exact .inr ⟨rfl,by rw [List.getElem_append_right (Nat.le_refl _)]; simp⟩
theorem le_fr {a j : Nat} (h : a = 0) (_ : 0 ≤ j) : a ≤ j := by omega
variable {n : Nat} {h : Int → Int → Int} {u : US} {t : Int} {R : RM}
theorem sys_take {W W' : List Int} {R' : RM} (Q : Sys n W h u) (hR : u t = some R) (hS : SB R.X) (e1 : R.X.life = 1) (e2 : R.X.job = 4) (e3 : R.X.part = 6) (p0 : marked R.X) (e6 : R.X.i < R.X.rows.length) (e7 : R.X.tk.length = R.X.i) (hse : 0 ≤ R.X.seen) (mi : MI (n + 1) W')
 (hW : sv W (at0 R.X.rows (R.X.i : Int)) = R.X.seen) (A : Turn W W' (at0 R.X.rows (R.X.i : Int)) (R.X.seen - R.X.seen % 16 + R.X.th + 1))
 (x1 : R'.X.life = 1) (x2 : R'.X.job = 4) (x3 : R'.X.part = 5 ∨ (R'.X.part = 7 ∧ R.X.i + 1 = R.X.rows.length)) (x4 : R'.X.bst = 0) (x5 : R'.X.tk = R.X.tk ++ [⟨2 + at0 R.X.rows (R.X.i : Int),R.X.seen⟩]) (x6 : R'.X.rows = R.X.rows) (x7 : R'.X.th = R.X.th) (x8 : R'.X.stamp = R.X.stamp) (x9 : R'.X.rs = R.X.rs) (y1 : R'.X.ws = R.X.ws)
 (y2 : R'.rd = R.rd ∧ R'.f = R.f ∧ R'.g = R.g ∧ R'.m = R.m) : Sys (n + 1) W' h (upd u t R') := by
 have L := Q.lo t R hR
 have hal : alv R.X := ⟨e1,by rw [e2]; decide⟩
 have hf : frm R.X = 0 := frm4 e2 (by rw [e3]; decide) (by rw [e3]; decide)
 have hf' : frm R'.X = 0 := frm4 x2 (by omega) (by omega)
 have s0 := L.sn e1 e2 e3
 have ht := hS.th
 have A' := A
 obtain ⟨⟨a0,a1⟩,a2,a3,a4,a5⟩ := A
 have free : ∀ k S,u k = some S → ¬Hd S.X (at0 R.X.rows (R.X.i : Int)) := fun k S hk => Q.free (by rw [hW]; exact s0) hk
 refine Q.mark hR x7 A' mi (by rw [hW]; omega) (fun k S _ hk => free k S hk) (fun q hq => ?_) (.inl ⟨R.X.i,by rw [hf']; exact Nat.zero_le _,by rw [x5,List.length_append,e7]; exact Nat.lt_succ_self _,by rw [x6]⟩) ⟨by rw [x1]; decide,by rw [e1]; decide⟩ ?_ (fun _ => ⟨hal,x8,fun q x => ?_⟩) (by rw [x2]; decide) (fun S x => ?_)
 ·unfold Hd
  rw [hf,hf',x5,x6]
  constructor
  ·rintro ⟨j,_,h2,h3⟩
   rcases tk_app h2 with ⟨k,_⟩ | ⟨k,_⟩
   ·exact ⟨j,Nat.zero_le _,k,h3⟩
   ·rw [k,e7] at h3
    exact absurd h3.symm hq
  ·rintro ⟨j,_,h2,h3⟩
   exact ⟨j,Nat.zero_le _,by rw [List.length_append]; exact Nat.lt_succ_of_lt h2,h3⟩
 ·refine Lo.lock x1 x2 (by omega) (by rw [x6]; exact L.nd) (fun j hj => ?_) (by rw [x8,a4]; exact L.st hal) (fun a => by omega) (fun a => ?_) (fun _ a => by omega) (by rw [y2.1,x8,x9]; exact L.rdh hal) ?_ (by rw [y1,x6]; exact L.wr e2 (by rw [e3]; decide) (by rw [e3]; decide))
  ·rw [x5] at hj ⊢
   rw [x6,x7]
   rcases tk_app hj with ⟨k,e⟩ | ⟨k,e⟩
   ·rw [e]
    have hd := L.hd j (by rw [hf]; exact Nat.zero_le _) k
    refine ⟨hd.1,hd.2.1, ?_,hd.2.2.2⟩
    rw [a3 _ hd.2.2.2.1 hd.2.2.2.2 fun e9 => ?_]
    ·exact hd.2.2.1
    ·exact free t R hR ⟨j,by rw [hf]; exact Nat.zero_le _,k,e9⟩
   ·rw [e,k,e7]
    exact ⟨s0,hse,by rw [a2]; show _ = R.X.seen + R.X.th + 1; omega,a0,a1⟩
  ·rw [x5,x6,List.length_append,e7]
   show R.X.i + 1 = _
   omega
  ·rcases L.ww e1 e2 with k | ⟨a,b,k1,k2,k3⟩
   ·exact .inl (by rw [y1]; exact k)
   ·exact .inr ⟨a,b,by rw [y2.1,y2.2.1,y2.2.2.1]; exact k1,by rw [y1,y2.2.1,y2.2.2.1,y2.2.2.2]; exact k2,by rw [y2.2.1,y2.2.2.1]; exact k3⟩
 ·rcases x with ⟨w,hw,ex⟩ | ⟨x,_⟩
  ·rw [x9] at hw
   exact .inl ⟨w,hw,ex⟩
  ·rw [x2] at x; exact vac 4 2 x
 ·rcases x with x | ⟨_,x,_⟩
  ·rw [x4] at x; exact vac 0 1 x.2.2.2.1
  ·omega
theorem sys_t (Q : Sys n R.X.W h u) (hR : u t = some R) (hS : SB R.X) (e1 : R.X.life = 1) (e2 : R.X.job = 4) (e3 : R.X.part = 6) (p0 : marked R.X) (e6 : R.X.i < R.X.rows.length) (e7 : R.X.tk.length = R.X.i) (e9 : R.X.bst = 0) (e12 : 0 ≤ R.X.seen ∧ R.X.seen < 1099511627776) (mi : MI (n + 1) (stepX R.X).W) :
 Sys (n + 1) (stepX R.X).W h (upd u t { R with X := stepX R.X }) := by
 have hr := p0.2.1.at_ e6
 have hf : frm R.X = 0 := frm4 e2 (by rw [e3]; decide) (by rw [e3]; decide)
 have e : stepX R.X = bif (at0 R.X.W (2 + at0 R.X.rows (R.X.i : Int)) == R.X.seen) then
  (bif geB (((R.X.i + 1 : Nat) : Int)) ((R.X.rows.length : Int)) then { swX (2 + at0 R.X.rows (R.X.i : Int)) R.X.seen (R.X.seen - R.X.seen % 16 + R.X.th + 1) R.X with tk := R.X.tk ++ [⟨2 + at0 R.X.rows (R.X.i : Int),R.X.seen⟩],i := R.X.i + 1,part := 7,code := 0,ybk := R.X.c,ybst := 0,ybse := 0,ybsp := 0 }
   else { swX (2 + at0 R.X.rows (R.X.i : Int)) R.X.seen (R.X.seen - R.X.seen % 16 + R.X.th + 1) R.X with tk := R.X.tk ++ [⟨2 + at0 R.X.rows (R.X.i : Int),R.X.seen⟩],i := R.X.i + 1,part := 5,code := 0 })
  else abX 1 (swX (2 + at0 R.X.rows (R.X.i : Int)) R.X.seen (R.X.seen - R.X.seen % 16 + R.X.th + 1) R.X) := by
  unfold stepX lockX
  rw [if_neg (by rw [e2]; decide),if_neg (by rw [e2]; decide),if_pos e2,if_neg (by rw [e3]; decide),if_neg (by rw [e3]; decide),if_pos e3,if_neg (by rw [e3]; decide)]
 rw [e] at mi ⊢
 cases hb : (at0 R.X.W (2 + at0 R.X.rows (R.X.i : Int)) == R.X.seen) with
 | true =>
  have hs : sv R.X.W (at0 R.X.rows (R.X.i : Int)) = R.X.seen := eq_of_beq hb
  have hW : (swX (2 + at0 R.X.rows (R.X.i : Int)) R.X.seen (R.X.seen - R.X.seen % 16 + R.X.th + 1) R.X).W = R.X.W.set (2 + at0 R.X.rows (R.X.i : Int)).toNat (R.X.seen - R.X.seen % 16 + R.X.th + 1) := by
   unfold swX
   show (bif (at0 R.X.W (2 + at0 R.X.rows (R.X.i : Int)) == R.X.seen) then _ else _) = _
   rw [hb]
   rfl
  rw [hb,cond_true] at mi
  rw [cond_true]
  cases hg : geB (((R.X.i + 1 : Nat) : Int)) ((R.X.rows.length : Int)) with
  | true =>
   have hg2 := of_decide_eq_true hg
   rw [hg] at mi
   exact sys_take Q hR hS e1 e2 e3 p0 e6 e7 e12.1 mi hs (by show Turn R.X.W (swX _ _ _ R.X).W _ _; rw [hW]; exact turn_set Q.mi.len hr.1 hr.2) e1 e2 (.inr ⟨rfl,by omega⟩) e9 rfl rfl rfl rfl rfl rfl ⟨rfl,rfl,rfl,rfl⟩
  | false =>
   rw [hg] at mi
   exact sys_take Q hR hS e1 e2 e3 p0 e6 e7 e12.1 mi hs (by show Turn R.X.W (swX _ _ _ R.X).W _ _; rw [hW]; exact turn_set Q.mi.len hr.1 hr.2) e1 e2 (.inl rfl) e9 rfl rfl rfl rfl rfl rfl ⟨rfl,rfl,rfl,rfl⟩
 | false =>
  have hW : (swX (2 + at0 R.X.rows (R.X.i : Int)) R.X.seen (R.X.seen - R.X.seen % 16 + R.X.th + 1) R.X).W = R.X.W := by
   unfold swX
   show (bif (at0 R.X.W (2 + at0 R.X.rows (R.X.i : Int)) == R.X.seen) then _ else _) = _
   rw [hb]
   rfl
  rw [cond_false]
  have := (sys_abort Q hR (c := 1) (s := swX (2 + at0 R.X.rows (R.X.i : Int)) R.X.seen (R.X.seen - R.X.seen % 16 + R.X.th + 1) R.X) hf e1 p0.1 rfl rfl rfl R.i R.busy R.end_).mono
  rw [abX_t (by exact p0.1)] at this ⊢
  exact this.alike (by show Alike R.X.W (swX _ _ _ R.X).W; rw [hW]; exact Alike.refl _) (by show MI (n + 1) (swX _ _ _ R.X).W; rw [hW]; exact this.mi)
theorem quiet8 {W : List Int} (Q : Sys n W h u) (hR : u t = some R) (e1 : R.X.life = 1) (e2 : R.X.job = 4) (e3 : R.X.part = 8) {i : Nat} (c : Int) (hva : ∀ x : Nat,x < i → x < R.X.rs.length → ∀ j : Nat,j < R.X.tk.length → at0 R.X.rows (j : Int) = (at3 R.X.rs (x : Int)).pl → (at3 R.X.tk (j : Int)).vl / 16 ≤ R.X.stamp) {s : XM}
 (hs : s = { R.X with part := 8,i := i,code := c,steps := s.steps,lk := s.lk,la := s.la,lv := s.lv,ls := s.ls,ld := s.ld,W := s.W }) : Sys n W h (upd u t { R with X := s }) := by
 have L := Q.lo t R hR
 have hal : alv R.X := ⟨e1,by rw [e2]; decide⟩
 rw [hs]
 have hf : frm R.X = 0 := frm4 e2 (by rw [e3]; decide) (by rw [e3]; decide)
 refine Q.quiet hR rfl (fun q => ?_) (fun r _ => .inr ⟨by show ¬R.X.life = 2; rw [e1]; decide,by rw [e1]; decide⟩) ?_ (fun k S hk hu ha hp r hr => ?_) (fun _ k S hk hu hp r hr x => ?_) (fun _ a => vac 4 2 (e2.symm.trans a)) (fun _ a => vac 4 2 (e2.symm.trans a))
 ·constructor
  ·rintro ⟨j,_,b,c⟩
   exact ⟨j,by first | (rw [hf]; exact Nat.zero_le _) | exact le_fr (frm4 (by exact e2) (show ¬(8 : Int) = 10 by decide) (show ¬(8 : Int) = 11 by decide)) (Nat.zero_le _),b,c⟩
  ·rintro ⟨j,_,b,c⟩
   exact ⟨j,by first | (rw [hf]; exact Nat.zero_le _) | exact le_fr (frm4 (by exact e2) (show ¬(8 : Int) = 10 by decide) (show ¬(8 : Int) = 11 by decide)) (Nat.zero_le _),b,c⟩
 ·exact {
   hd := fun j _ b => L.hd j (by rw [hf]; exact Nat.zero_le _) b
   nd := L.nd
   st := fun _ => L.st hal
   sn := fun _ _ a => vac 8 6 a
   full := fun _ _ _ => L.full e2 (by rw [e3]; decide) (by rw [e3]; decide)
   km := fun _ _ a => vac 8 7 a
   mkd := fun _ _ _ => ⟨fun j _ b => (L.mkd e2 (by rw [e3]; decide) (by rw [e3]; decide)).1 j (by rw [hf]; exact Nat.zero_le _) b,(L.mkd e2 (by rw [e3]; decide) (by rw [e3]; decide)).2⟩
   ms := fun _ _ _ => L.ms e1 e2 e3
   bg := fun a => vac 4 1 (e2.symm.trans a)
   va := fun _ _ => hva
   rdh := fun _ => L.rdh hal
   ww := fun _ _ => L.ww e1 e2
   wr := fun _ _ _ => L.wr e2 (by rw [e3]; decide) (by rw [e3]; decide)
   pe := fun a => vac 1 2 (e1.symm.trans a)
   dn := fun a => vac 1 2 (e1.symm.trans a) }
 ·have hr' : Hd R.X r := by
   obtain ⟨j,_,b,c⟩ := hr
   exact ⟨j,by rw [hf]; exact Nat.zero_le _,b,c⟩
  refine Q.pa t R k S hR hu (fun e => hk e.symm) ha ?_ r hr'
  rcases hp with x | ⟨_,_,x⟩
  ·exact vac 8 7 x.2.2.1
  ·exact .inr ⟨e2,.inl e3,x⟩
 ·refine Q.pa k S t R hu hR hk hal hp r hr ?_
  rcases x with x | ⟨x,_⟩
  ·exact .inl x
  ·exact vac 4 2 (e2.symm.trans x)
theorem go_sys {W : List Int} (Q : Sys n W h u) (hR : u t = some R) (hS : SB R.X) (mi : MI n W) (hn : n ≤ 1000) (e1 : R.X.life = 1) (e2 : R.X.job = 4) (e3 : R.X.part = 8) (hne : R.X.ws ≠ []) {kI : Int} (hk : kI = (R.X.i : Int)) :
 ∃ h',Sys n W h' (upd u t { R with X := goX R.X.i kI R.X }) := by
 have L := Q.lo t R hR
 have hal : alv R.X := ⟨e1,by rw [e2]; decide⟩
 have hst := L.st hal
 have hmk := L.mkd e2 (by rw [e3]; decide) (by rw [e3]; decide)
 have hf : frm R.X = 0 := frm4 e2 (by rw [e3]; decide) (by rw [e3]; decide)
 have hp := pos_of hne
 have hde : deX R.X = { R.X with life := 2,part := 9,i := 0,code := 0 } := by
  unfold deX
  rw [show ltB 0 (R.X.ws.length : Int) = true from decide_eq_true (by omega)]
  rfl
 have dec : (∀ w ∈ R.X.ws,∀ j : Nat,j < R.X.tk.length → at0 R.X.rows (j : Int) = hashT w.pl → (at3 R.X.tk (j : Int)).vl / 16 ≤ R.X.stamp) → ∃ h',Sys n W h' (upd u t { R with X := deX R.X }) := fun hall =>
  ⟨_,Q.decide (R' := { R with X := deX R.X }) hR hS mi e1 e2 e3 hall (L.ms e1 e2 e3) (by rw [hde]) hne⟩
 -- all that is read was looked at
 have full : ¬kI < (R.X.rs.length : Int) → ∀ w ∈ R.X.ws,∀ j : Nat,j < R.X.tk.length → at0 R.X.rows (j : Int) = hashT w.pl → (at3 R.X.tk (j : Int)).vl / 16 ≤ R.X.stamp := by
  intro hlt w hw j hj ej
  have hrd : ∃ r ∈ R.rd,26 + 2 * r.pl = w.pl := by
   rcases L.ww e1 e2 with k | ⟨a,b,k1,k2,_⟩
   ·exact absurd k hne
   ·rw [k2] at hw
    simp only [List.mem_cons,List.not_mem_nil,or_false] at hw
    rcases hw with rfl | rfl
    ·exact ⟨⟨R.f,a⟩,by rw [k1]; exact List.mem_cons_self,rfl⟩
    ·exact ⟨⟨R.g,b⟩,by rw [k1]; exact List.mem_cons_of_mem _ List.mem_cons_self,rfl⟩
  obtain ⟨r,hr,er⟩ := hrd
  obtain ⟨_,_,x,hx,ex⟩ := L.rdh hal r hr
  obtain ⟨z,hz,ez⟩ := List.mem_iff_getElem.1 hx
  refine L.va e2 e3 z (by omega) hz j hj ?_
  rw [ej,at3_get hz,ez,ex,er]
 unfold goX
 cases h1 : ltB kI (R.X.rs.length : Int) with
 | false => exact dec (full (of_decide_eq_false h1))
 | true =>
  cases h2 : (eqB R.X.bk 1 && (R.X.made == i64.wrap (R.X.stamp + 1))) with
  | true =>
   refine dec fun w hw j hj _ => ?_
   rw [Bool.and_eq_true] at h2
   have hm := eq_of_beq h2.2
   rw [wrap_id (by omega) (by have := mi.clk; omega)] at hm
   have := hmk.1 j (by rw [hf]; exact Nat.zero_le _) hj
   omega
  | false => exact ⟨h,quiet8 Q hR e1 e2 e3 (i := R.X.i) 0 (fun x hx => L.va e2 e3 x hx) rfl⟩
end Go.Proofs.Ytmjjljngaefpaaa

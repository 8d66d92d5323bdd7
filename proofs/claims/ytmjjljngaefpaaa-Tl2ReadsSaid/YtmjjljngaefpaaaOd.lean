/- Opacity: an attempt is decided: what is there from its time on. -/
import Derived.Test.YtmjjljngaefpaaaOr
namespace Go.Proofs.Ytmjjljngaefpaaa
open Go.RowKit Go.Am Go.Sy
open Go.IntKind (i64 u64)
set_option linter.unusedVariables false
def late (h : Int → Int → Int) (ws : List Wo) (m : Int) : Int → Int → Int := fun τ d => if m ≤ τ then (match ws.find? fun w => w.pl == d with | some w => w.vl | none => h τ d) else h τ d
theorem late_ahead {h : Int → Int → Int} {ws : List Wo} {m τ d : Int} (e : ¬m ≤ τ) : late h ws m τ d = h τ d := by unfold late; rw [if_neg e]
theorem late_out {h : Int → Int → Int} {ws : List Wo} {m τ d : Int} (e : ∀ w ∈ ws,w.pl ≠ d) : late h ws m τ d = h τ d := by
 unfold late
 have : ws.find? (fun w => w.pl == d) = none := by
  rw [List.find?_eq_none]
  intro w hw
  simpa using e w hw
 rw [this]
 split <;> rfl
theorem late_in {h : Int → Int → Int} {ws : List Wo} {m τ : Int} (e : m ≤ τ) (hn : (ws.map (·.pl)).Nodup) {w : Wo} (hw : w ∈ ws) : late h ws m τ w.pl = w.vl := by
 unfold late
 rw [if_pos e]
 have : ws.find? (fun x => x.pl == w.pl) = some w := by
  induction ws with
  | nil => cases hw
  | cons x l ih =>
   rw [List.map_cons,List.nodup_cons] at hn
   rw [List.find?_cons]
   rcases List.mem_cons.1 hw with rfl | hw
   ·simp
   ·have : x.pl ≠ w.pl := fun e => hn.1 (by rw [e]; exact List.mem_map_of_mem hw)
    rw [show (x.pl == w.pl) = false by simpa using this]
    exact ih hn.2 hw
 rw [this]
theorem wrap_mod (x : Int) : ∃ k : Int,i64.wrap x = x + k * 18446744073709551616 := by
 refine ⟨-((x + 9223372036854775808) / 18446744073709551616), ?_⟩
 simp only [IntKind.wrap,IntKind.signed,IntKind.bits]
 simp
 omega
theorem wrap_eq {x y k : Int} (h : x = y + k * 18446744073709551616) : i64.wrap x = i64.wrap y := by
 simp only [IntKind.wrap,IntKind.signed,IntKind.bits]
 simp
 omega
theorem move_sum {h h' : Int → Int} {f g a b m : Int} (hf : isData (26 + 2 * f)) (hg : isData (26 + 2 * g)) (hne : f ≠ g) (ha : h (26 + 2 * f) = a) (hb : h (26 + 2 * g) = b) (h1 : h' (26 + 2 * f) = i64.wrap (a + -m)) (h2 : h' (26 + 2 * g) = i64.wrap (b + m)) (ho : ∀ d,d ≠ 26 + 2 * f → d ≠ 26 + 2 * g → h' d = h d) :
 i64.wrap (h' 26 + h' 28 + h' 30 + h' 32) = i64.wrap (h 26 + h 28 + h 30 + h 32) := by
 obtain ⟨k1,e1⟩ := wrap_mod (a + -m)
 obtain ⟨k2,e2⟩ := wrap_mod (b + m)
 have key : h' 26 + h' 28 + h' 30 + h' 32 = h 26 + h 28 + h 30 + h 32 + (k1 + k2) * 18446744073709551616 := by
  have fv : f = 0 ∨ f = 1 ∨ f = 2 ∨ f = 3 := by unfold isData at hf; omega
  have gv : g = 0 ∨ g = 1 ∨ g = 2 ∨ g = 3 := by unfold isData at hg; omega
  have o26 := ho 26
  have o28 := ho 28
  have o30 := ho 30
  have o32 := ho 32
  rcases fv with rfl | rfl | rfl | rfl <;> rcases gv with rfl | rfl | rfl | rfl <;> first
   | exact absurd rfl hne
   | (simp only [Int.mul_zero,Int.add_zero,Int.mul_one,Int.reduceMul,Int.reduceAdd] at ha hb h1 h2 o26 o28 o30 o32
      omega)
 exact wrap_eq key
theorem Sys.decide {n n' : Nat} {W : List Int} {h : Int → Int → Int} {u : US} (Q : Sys n W h u) {t : Int} {R R' : RM} (hR : u t = some R) (hS : SB R.X) (mi : MI n' W) (h2 : R.X.life = 1) (hj : R.X.job = 4) (hp : R.X.part = 8)
 (hall : ∀ w ∈ R.X.ws,∀ j : Nat,j < R.X.tk.length → at0 R.X.rows (j : Int) = hashT w.pl → (at3 R.X.tk (j : Int)).vl / 16 ≤ R.X.stamp) (hst : R.X.stamp ≤ R.X.made)
 (eR : R' = { R with X := { R.X with life := 2,part := 9,i := 0,code := 0 } }) (hne : R.X.ws ≠ []) : Sys n' W (late h R.X.ws R.X.made) (upd u t R') := by
 have L := Q.lo t R hR
 have hX : R'.X.th = R.X.th ∧ R'.X.life = 2 ∧ R'.X.job = 4 ∧ R'.X.part = 9 ∧ R'.X.made = R.X.made ∧ R'.X.ws = R.X.ws ∧ R'.X.tk = R.X.tk ∧ R'.X.rows = R.X.rows ∧ R'.X.i = 0 := by subst eR; exact ⟨rfl,rfl,hj,rfl,rfl,rfl,rfl,rfl,rfl⟩
 obtain ⟨x1,x2,x3,x4,x5,x6,x7,x8,x9⟩ := hX
 have full := L.full hj (by rw [hp]; decide) (by rw [hp]; decide)
 have fr : frm R.X = 0 := by unfold frm; rw [if_pos hj,if_neg (by rw [hp]; decide),if_neg (by rw [hp]; decide)]
 have fr' : frm R'.X = 0 := by unfold frm; rw [if_pos x3,if_neg (by rw [x4]; decide),if_neg (by rw [x4]; decide)]
 have hd : ∀ q,Hd R'.X q ↔ Hd R.X q := by intro q; unfold Hd; rw [fr,fr',x7,x8]
 have hmk := L.mkd hj (by rw [hp]; decide) (by rw [hp]; decide)
 have hwr := L.wr hj (by rw [hp]; decide) (by rw [hp]; decide)
 have tht := Q.th t R hR
 -- what is written is held
 have held : ∀ w ∈ R.X.ws,Hd R.X (hashT w.pl) := by
  intro w hw
  obtain ⟨_,j,h1,h3⟩ := hwr w hw
  exact ⟨j,by rw [fr]; exact Nat.zero_le _,by rw [full]; exact h1,h3⟩
 -- what it holds has stood there since its version
 have still : ∀ d,isData d → Hd R.X (hashT d) → ∃ j : Nat,j < R.X.tk.length ∧ at0 R.X.rows (j : Int) = hashT d ∧ (at3 R.X.tk (j : Int)).vl / 16 < R.X.made ∧ ∀ τ,(at3 R.X.tk (j : Int)).vl / 16 ≤ τ → h τ d = at0 W d := by
  rintro d hdd ⟨j,h1,h3,h4⟩
  obtain ⟨k1,k2,k3,k4,k5⟩ := L.hd j h1 h3
  refine ⟨j,h3,h4,hmk.1 j h1 h3,fun τ hτ => Q.da d hdd (fun k S hk hl hh => ?_) τ ?_⟩
  ·have := Q.one hk hR hh ⟨j,h1,h3,h4⟩
   subst this
   rw [hR] at hk
   cases hk
   exact absurd (h2.symm.trans hl) (by decide)
  ·rw [← h4,k3]; omega
 have cal : ∀ q,calm (upd u t R') q → calm u q := by
  intro q c k S hk hl hh
  by_cases e : k = t
  ·subst e
   rw [hR] at hk
   cases hk
   exact absurd (h2.symm.trans hl) (by decide)
  ·exact c k S (by unfold upd; rw [if_neg e]; exact hk) hl hh
 -- who reads what it holds began earlier
 have seen : ∀ k S,k ≠ t → u k = some S → alv S.X → R.X.made ≤ S.X.stamp → ∀ d,isData d → RdS S.X (hashT d) → ∀ w ∈ R.X.ws,w.pl ≠ d := by
  intro k S e hk ha hm d hdd hr w hw e2
  subst e2
  exact Q.pa t R k S hR hk (fun e2 => e e2.symm) ha (.inr ⟨hj,.inl hp,hm⟩) _ (held w hw) hr
 have same : ∀ k S,k ≠ t → u k = some S → alv S.X → ∀ d,isData d → RdS S.X (hashT d) → late h R.X.ws R.X.made S.X.stamp d = h S.X.stamp d := by
  intro k S e hk ha d hdd hr
  by_cases hm : R.X.made ≤ S.X.stamp
  ·exact late_out (seen k S e hk ha hm d hdd hr)
  ·exact late_ahead hm
 have lot : ∀ k S,k ≠ t → u k = some S → Lo W (late h R.X.ws R.X.made) S := by
  intro k S e hk
  have M := Q.lo k S hk
  have out : ∀ d,Hd S.X (hashT d) → ∀ w ∈ R.X.ws,w.pl ≠ d := by
   intro d hh w hw e2
   subst e2
   exact e (Q.one hk hR hh (held w hw))
  exact {
   hd := M.hd
   nd := M.nd
   st := M.st
   sn := M.sn
   full := M.full
   km := M.km
   mkd := M.mkd
   ms := M.ms
   bg := M.bg
   va := M.va
   rdh := fun ha w hw => by
    obtain ⟨k1,k2,x,k3,k4⟩ := M.rdh ha w hw
    exact ⟨k1,by rw [same k S e hk ha _ k1 (.inl ⟨x,k3,k4⟩)]; exact k2,x,k3,k4⟩
   ww := M.ww
   wr := M.wr
   pe := fun a b c x hx hh τ hτ => by
    rw [late_out (out _ hh)]
    exact M.pe a b c x hx hh τ hτ
   dn := fun a b c d hd hh hn τ hτ => by
    rw [late_out (out _ hh)]
    exact M.dn a b c d hd hh hn τ hτ }
 have lo : Lo W (late h R.X.ws R.X.made) R' := {
  hd := fun j a b => by rw [fr'] at a; rw [x7] at b; rw [x7,x8,x1]; exact L.hd j (by rw [fr]; exact a) b
  nd := by rw [x8]; exact L.nd
  st := fun a => absurd (a.1.symm.trans x2) (by decide)
  sn := fun a => absurd (a.symm.trans x2) (by decide)
  full := fun _ _ _ => by rw [x7,x8]; exact full
  km := fun a => absurd (a.symm.trans x2) (by decide)
  mkd := fun _ _ _ => by rw [fr',x7,x5]; rw [fr] at hmk; exact hmk
  ms := fun a => absurd (a.symm.trans x2) (by decide)
  bg := fun a => absurd (a.symm.trans x3) (by decide)
  va := fun _ a => absurd (a.symm.trans x4) (by decide)
  rdh := fun a => absurd (a.1.symm.trans x2) (by decide)
  ww := fun a => absurd (a.symm.trans x2) (by decide)
  wr := fun _ _ _ => by rw [x6,x8]; exact hwr
  pe := fun _ _ _ x hx hh τ hτ => by
   rw [x6] at hx ⊢
   rw [x5] at hτ
   rw [if_pos ⟨x4,by rw [x9]; exact Nat.zero_le _⟩,at3_get hx]
   exact late_in hτ hS.wn (List.getElem_mem _)
  dn := fun _ _ _ d hdd hh hn τ hτ => by
   rw [x6] at hn
   rw [x5] at hτ
   rw [late_out hn]
   obtain ⟨j,g1,g2,g3,g4⟩ := still d hdd ((hd _).1 hh)
   exact g4 τ (by omega) }
 refine ⟨mi,wide (by rw [x1]; exact tht) fun k S _ hk => Q.th k S hk,Q.vc,fun q a b => ?_,wide lo lot, ?_, ?_, ?_,fun d hdd hc τ hτ => ?_,fun τ => ?_⟩
 ·rcases Q.ow q a b with k | ⟨k,S,k1,k2⟩
  ·exact .inl k
  ·right
   by_cases e2 : k = t
   ·subst e2
    rw [hR] at k1
    cases k1
    exact ⟨k,R',upd_self _ _ _,(hd q).2 k2⟩
   ·exact ⟨k,S,by unfold upd; rw [if_neg e2]; exact k1,k2⟩
 ·intro k S k' S' g1 g2 hne2 ha hp2 q hq
  rcases upd_cases g1 with ⟨rfl,rfl⟩ | ⟨a,b⟩
  ·rcases upd_cases g2 with ⟨rfl,rfl⟩ | ⟨a',b'⟩
   ·exact absurd rfl hne2
   ·refine Q.pa k R k' S' hR b' hne2 ha ?_ q ((hd q).1 hq)
    rcases hp2 with z | z
    ·exact absurd (z.1.symm.trans x2) (by decide)
    ·exact .inr ⟨hj,.inl hp,by rw [← x5]; exact z.2.2⟩
  ·rcases upd_cases g2 with ⟨rfl,rfl⟩ | ⟨a',b'⟩
   ·exact absurd (ha.1.symm.trans x2) (by decide)
   ·exact Q.pa k S k' S' b b' hne2 ha hp2 q hq
 ·refine wide (fun ha _ _ => absurd (ha.1.symm.trans x2) (by decide)) fun k S hk hu ha hj2 hp2 => ?_
  obtain ⟨k0,k1,k2,k3,k4⟩ := Q.r1 k S hu ha hj2 hp2
  refine ⟨k0,k1,k2,k3,wide (fun hl hh => ?_) fun k' S' _ hu' hl hh => k4 k' S' hu' hl hh⟩
  obtain ⟨j,g1,g2,g3⟩ := (hd _).1 hh
  obtain ⟨z1,z2,z3,z4,z5⟩ := L.hd j g1 g2
  have := hmk.1 j g1 g2
  rw [x5]
  rw [← g3,z3] at k3
  omega
 ·refine wide (fun ha _ _ _ => absurd (ha.1.symm.trans x2) (by decide)) fun k S hk hu ha hj2 hp2 hc he => ?_
  have k0 := (Q.r1 k S hu ha hj2 (by rw [hp2]; decide)).1
  rw [same k S hk hu ha _ k0.1 (.inr ⟨hj2,by rw [hp2]; decide,k0.2⟩)]
  exact Q.r2 k S hu ha hj2 hp2 (cal _ hc) he
 ·have : ∀ w ∈ R.X.ws,w.pl ≠ d := fun w hw e => hc t R' (upd_self _ _ _) x2 ((hd _).2 (by rw [← e]; exact held w hw))
  rw [late_out this]
  exact Q.da d hdd (cal _ hc) τ hτ
 ·by_cases hm : R.X.made ≤ τ
  ·rcases L.ww h2 hj with e | ⟨a,b,e1,e2,e3⟩
   ·exact absurd e hne
   ·have ha : alv R.X := ⟨h2,by rw [hj]; decide⟩
    have val : ∀ w ∈ R.rd,(∃ x ∈ R.X.ws,x.pl = 26 + 2 * w.pl) → h τ (26 + 2 * w.pl) = w.vl ∧ isData (26 + 2 * w.pl) := by
     rintro w hw ⟨x,hx,ex⟩
     obtain ⟨k1,k2,_⟩ := L.rdh ha w hw
     have hh := held x hx
     rw [ex] at hh
     obtain ⟨j,g1,g2,g3,g4⟩ := still _ k1 hh
     have := hall x hx j g1 (by rw [ex]; exact g2)
     exact ⟨by rw [k2,g4 τ (by omega),g4 _ this],k1⟩
    have w1 : (⟨R.f,a⟩ : Wo) ∈ R.rd := by rw [e1]; exact List.mem_cons_self
    have w2 : (⟨R.g,b⟩ : Wo) ∈ R.rd := by rw [e1]; exact List.mem_cons_of_mem _ List.mem_cons_self
    have v1 : (⟨26 + 2 * R.f,i64.wrap (a + -R.m)⟩ : Wo) ∈ R.X.ws := by rw [e2]; exact List.mem_cons_self
    have v2 : (⟨26 + 2 * R.g,i64.wrap (b + R.m)⟩ : Wo) ∈ R.X.ws := by rw [e2]; exact List.mem_cons_of_mem _ List.mem_cons_self
    obtain ⟨p1,p2⟩ := val _ w1 ⟨_,v1,rfl⟩
    obtain ⟨q1,q2⟩ := val _ w2 ⟨_,v2,rfl⟩
    unfold sumH
    rw [move_sum (h := h τ) (h' := late h R.X.ws R.X.made τ) p2 q2 e3 p1 q1 (late_in hm hS.wn v1) (late_in hm hS.wn v2) fun d d1 d2 => late_out fun w hw e => ?_]
    ·exact Q.sm τ
    ·rw [e2] at hw
     simp only [List.mem_cons,List.not_mem_nil,or_false] at hw
     rcases hw with rfl | rfl
     ·exact d1 e.symm
     ·exact d2 e.symm
  ·unfold sumH
   rw [late_ahead hm,late_ahead hm,late_ahead hm,late_ahead hm]
   exact Q.sm τ
end Go.Proofs.Ytmjjljngaefpaaa

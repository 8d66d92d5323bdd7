/- Opacity: stripes given back, words written, the clock moved on. -/
import Derived.Test.YtmjjljngaefpaaaOq
namespace Go.Proofs.Ytmjjljngaefpaaa
open Go.RowKit Go.Am Go.Sy
open Go.IntKind (i64 u64)
set_option linter.unusedVariables false
theorem Sys.gave {n n' : Nat} {W W' : List Int} {h : Int → Int → Int} {u : US} (Q : Sys n W h u) {t : Int} {R R' : RM} (hR : u t = some R) (hth : R'.X.th = R.X.th) {r : Int} (A : Turn W W' r (R.X.made * 16)) (mi : MI n' W')
 (h2 : R.X.life = 2) (hj : R.X.job = 4) (hp : R.X.part = 10) (hr : Hd R.X r) (h2' : R'.X.life = 2) (hm : R'.X.made = R.X.made) (hd : ∀ q,Hd R'.X q ↔ (Hd R.X q ∧ q ≠ r)) (lo : Lo W' h R') : Sys n' W' h (upd u t R') := by
 have A' := A
 obtain ⟨a1,a2,a3,a4,a5⟩ := A
 have L := Q.lo t R hR
 have hmk := L.mkd hj (by rw [hp]; decide) (by rw [hp]; decide)
 have e16 : sv W' r / 16 = R.X.made := by rw [a2]; omega
 have oth : ∀ k S,k ≠ t → u k = some S → ¬Hd S.X r := fun k S e hk x => e (Q.one hk hR x hr)
 have cal : ∀ q,q ≠ r → calm (upd u t R') q → calm u q := by
  intro q hq c k S hk hl hh
  by_cases e : k = t
  ·subst e
   rw [hR] at hk
   cases hk
   exact c k R' (upd_self _ _ _) h2' ((hd q).2 ⟨hh,hq⟩)
  ·exact c k S (by unfold upd; rw [if_neg e]; exact hk) hl hh
 have tht := Q.th t R hR
 have pro : ∀ S,Pro R'.X S → Pro R.X S := by
  rintro S (k | k)
  ·exact absurd (k.1.symm.trans h2') (by decide)
  ·exact .inr ⟨hj,.inr (.inr hp),by rw [← hm]; exact k.2.2⟩
 refine ⟨mi,wide (by rw [hth]; exact tht) fun k S _ hk => Q.th k S hk,fun q a b => ?_,fun q a b => ?_,wide lo fun k S e hk => (Q.lo k S hk).turn A' (oth k S e hk), ?_, ?_, ?_,fun d hdd hc τ hτ => ?_,Q.sm⟩
 ·rw [a4]
  by_cases e : q = r
  ·rw [e,e16]; exact hmk.2
  ·rw [a3 q a b e]; exact Q.vc q a b
 ·by_cases e : q = r
  ·left; rw [e,a2]; omega
  ·rw [a3 q a b e]
   rcases Q.ow q a b with k | ⟨k,S,k1,k2⟩
   ·exact .inl k
   ·right
    by_cases e2 : k = t
    ·subst e2
     rw [hR] at k1
     cases k1
     exact ⟨k,R',upd_self _ _ _,(hd q).2 ⟨k2,e⟩⟩
    ·exact ⟨k,S,by unfold upd; rw [if_neg e2]; exact k1,k2⟩
 ·intro k S k' S' g1 g2 hne ha hp q hq
  rcases upd_cases g1 with ⟨rfl,rfl⟩ | ⟨a,b⟩
  ·rcases upd_cases g2 with ⟨rfl,rfl⟩ | ⟨a',b'⟩
   ·exact absurd rfl hne
   ·exact Q.pa k R k' S' hR b' hne ha (pro _ hp) q ((hd q).1 hq).1
  ·rcases upd_cases g2 with ⟨rfl,rfl⟩ | ⟨a',b'⟩
   ·exact absurd (ha.1.symm.trans h2') (by decide)
   ·exact Q.pa k S k' S' b b' hne ha hp q hq
 ·refine wide (fun ha hj hp => absurd (ha.1.symm.trans h2') (by decide)) fun k S hk hu ha hj hp => ?_
  obtain ⟨k0,k1,k2,k3,k4⟩ := Q.r1 k S hu ha hj hp
  refine ⟨k0,k1,k2, ?_,wide (fun hl hh => ?_) fun k' S' _ hu' hl hh => k4 k' S' hu' hl hh⟩
  ·by_cases e : S.X.row = r
   ·have := k4 t R hR h2 (by rw [e]; exact hr)
    rw [e,e16]; omega
   ·have hg := hash_ge k0.1
    rw [a3 _ (by rw [k0.2]; exact hg.1) (by rw [k0.2]; exact hg.2) e]; exact k3
  ·rw [hm]; exact k4 t R hR h2 ((hd _).1 hh).1
 ·refine wide (fun ha hj hp hc => absurd (ha.1.symm.trans h2') (by decide)) fun k S _ hu ha hj hp hc he => ?_
  obtain ⟨k0,k1,k2,k3,k4⟩ := Q.r1 k S hu ha hj (by rw [hp]; decide)
  by_cases e : S.X.row = r
  ·have := k4 t R hR h2 (by rw [e]; exact hr)
   rw [e,e16] at he; omega
  ·have hg := hash_ge k0.1
   rw [a3 _ (by rw [k0.2]; exact hg.1) (by rw [k0.2]; exact hg.2) e] at he
   exact Q.r2 k S hu ha hj hp (cal _ e hc) he
 ·rw [a5 d hdd]
  by_cases e : hashT d = r
  ·rw [e,e16] at hτ
   by_cases hw : ∃ w ∈ R.X.ws,w.pl = d
   ·obtain ⟨w,hw,rfl⟩ := hw
    obtain ⟨x,hx,ew⟩ := List.mem_iff_getElem.1 hw
    have := L.pe h2 hj (.inr hp) x hx (by rw [at3_get hx,ew,e]; exact hr) τ hτ
    rw [if_neg (by rw [hp]; omega),at3_get hx,ew] at this
    exact this
   ·exact L.dn h2 hj (.inr hp) d hdd (by rw [e]; exact hr) (fun w hw2 e2 => hw ⟨w,hw2,e2⟩) τ hτ
  ·rw [a3 _ (hash_ge hdd).1 (hash_ge hdd).2 e] at hτ
   exact Q.da d hdd (cal _ e hc) τ hτ
theorem Sys.wrote {n n' : Nat} {W W' : List Int} {h : Int → Int → Int} {u : US} (Q : Sys n W h u) {t : Int} {R R' : RM} (hR : u t = some R) (hth : R'.X.th = R.X.th) {p : Int} (hlow : ∀ a : Int,0 ≤ a → a < 5 → at0 W' a = at0 W a) (hdat : ∀ d,isData d → d ≠ p → at0 W' d = at0 W d) (mi : MI n' W')
 (h2 : R.X.life = 2) (hj : R.X.job = 4) (hp : R.X.part = 9 ∨ R.X.part = 10) (hr : Hd R.X (hashT p)) (h2' : R'.X.life = 2) (hm : R'.X.made = R.X.made) (hd : ∀ q,Hd R'.X q ↔ Hd R.X q) (lo : Lo W' h R') : Sys n' W' h (upd u t R') := by
 have e0 : at0 W' 0 = at0 W 0 := hlow 0 (by decide) (by decide)
 have es : ∀ r,0 ≤ r → r < 3 → sv W' r = sv W r := fun r a b => hlow (2 + r) (by omega) (by omega)
 have eh : ∀ d,isData d → sv W' (hashT d) = sv W (hashT d) := fun d hd => es _ (hash_ge hd).1 (hash_ge hd).2
 have oth : ∀ k S,k ≠ t → u k = some S → ¬Hd S.X (hashT p) := fun k S e hk x => e (Q.one hk hR x hr)
 have cal : ∀ q,calm (upd u t R') q → calm u q := by
  intro q c k S hk hl hh
  by_cases e : k = t
  ·subst e
   rw [hR] at hk
   cases hk
   exact c k R' (upd_self _ _ _) h2' ((hd q).2 hh)
  ·exact c k S (by unfold upd; rw [if_neg e]; exact hk) hl hh
 have tht := Q.th t R hR
 have pro : ∀ S,Pro R'.X S → Pro R.X S := by
  rintro S (k | k)
  ·exact absurd (k.1.symm.trans h2') (by decide)
  ·exact .inr ⟨hj,.inr hp,by rw [← hm]; exact k.2.2⟩
 have lot : ∀ k S,k ≠ t → u k = some S → Lo W' h S := by
  intro k S e hk
  have L := Q.lo k S hk
  exact {
   hd := fun j a b => by
    obtain ⟨k1,k2,k3,k4,k5⟩ := L.hd j a b
    exact ⟨k1,k2,by rw [es _ k4 k5]; exact k3,k4,k5⟩
   nd := L.nd
   st := by rw [e0]; exact L.st
   sn := L.sn
   full := L.full
   km := by rw [e0]; exact L.km
   mkd := by rw [e0]; exact L.mkd
   ms := L.ms
   bg := L.bg
   va := L.va
   rdh := L.rdh
   ww := L.ww
   wr := L.wr
   pe := fun a b c x hx hh τ hτ => by
    have hp : 5 ≤ S.X.part ∧ S.X.part ≤ 10 := by rcases c with c | c <;> rw [c] <;> decide
    rw [hdat _ (data_at (fun w hw => (L.wr b hp.1 hp.2 w hw).1) hx) fun e2 => oth k S e hk (by rw [← e2]; exact hh)]
    exact L.pe a b c x hx hh τ hτ
   dn := fun a b c d hd hh hn τ hτ => by
    rw [hdat d hd fun e2 => oth k S e hk (by rw [← e2]; exact hh)]
    exact L.dn a b c d hd hh hn τ hτ }
 refine ⟨mi,wide (by rw [hth]; exact tht) fun k S _ hk => Q.th k S hk,fun q a b => by rw [es q a b,e0]; exact Q.vc q a b,fun q a b => ?_,wide lo lot, ?_, ?_, ?_,fun d hdd hc τ hτ => ?_,Q.sm⟩
 ·rw [es q a b]
  rcases Q.ow q a b with k | ⟨k,S,k1,k2⟩
  ·exact .inl k
  ·right
   by_cases e2 : k = t
   ·subst e2
    rw [hR] at k1
    cases k1
    exact ⟨k,R',upd_self _ _ _,(hd q).2 k2⟩
   ·exact ⟨k,S,by unfold upd; rw [if_neg e2]; exact k1,k2⟩
 ·intro k S k' S' g1 g2 hne ha hp q hq
  rcases upd_cases g1 with ⟨rfl,rfl⟩ | ⟨a,b⟩
  ·rcases upd_cases g2 with ⟨rfl,rfl⟩ | ⟨a',b'⟩
   ·exact absurd rfl hne
   ·exact Q.pa k R k' S' hR b' hne ha (pro _ hp) q ((hd q).1 hq)
  ·rcases upd_cases g2 with ⟨rfl,rfl⟩ | ⟨a',b'⟩
   ·exact absurd (ha.1.symm.trans h2') (by decide)
   ·exact Q.pa k S k' S' b b' hne ha hp q hq
 ·refine wide (fun ha hj hp => absurd (ha.1.symm.trans h2') (by decide)) fun k S hk hu ha hj hp => ?_
  obtain ⟨k0,k1,k2,k3,k4⟩ := Q.r1 k S hu ha hj hp
  refine ⟨k0,k1,k2,by rw [k0.2,eh _ k0.1,← k0.2]; exact k3,wide (fun hl hh => ?_) fun k' S' _ hu' hl hh => k4 k' S' hu' hl hh⟩
  rw [hm]; exact k4 t R hR h2 ((hd _).1 hh)
 ·refine wide (fun ha hj hp hc => absurd (ha.1.symm.trans h2') (by decide)) fun k S _ hu ha hj hp hc he => ?_
  have k0 := (Q.r1 k S hu ha hj (by rw [hp]; decide)).1
  rw [k0.2,eh _ k0.1,← k0.2] at he
  exact Q.r2 k S hu ha hj hp (cal _ hc) he
 ·have hne : d ≠ p := fun e => hc t R' (upd_self _ _ _) h2' ((hd _).2 (by rw [e]; exact hr))
  rw [hdat d hdd hne]
  rw [eh d hdd] at hτ
  exact Q.da d hdd (cal _ hc) τ hτ
theorem Sys.bump {n n' : Nat} {W W' : List Int} {h : Int → Int → Int} {u : US} (Q : Sys n W h u) {t : Int} {R R' : RM} (hR : u t = some R) (hth : R'.X.th = R.X.th) (hc0 : at0 W 0 ≤ at0 W' 0) (hs : ∀ r,0 ≤ r → r < 3 → sv W' r = sv W r) (hdat : ∀ d,isData d → at0 W' d = at0 W d) (mi : MI n' W')
 (h2 : R.X.life = 1) (h2' : R'.X.life = 1) (hj' : R'.X.job = 4) (hd : ∀ q,Hd R'.X q ↔ Hd R.X q) (lo : Lo W' h R')
 (p1 : ∀ k S,k ≠ t → u k = some S → alv S.X → Pro R'.X S.X.stamp → ∀ r,Hd R'.X r → ¬RdS S.X r) (hal : alv R.X) (hst : R'.X.stamp = R.X.stamp) (hrd : ∀ q,RdS R'.X q → RdS R.X q) : Sys n' W' h (upd u t R') := by
 have eh : ∀ d,isData d → sv W' (hashT d) = sv W (hashT d) := fun d hd => hs _ (hash_ge hd).1 (hash_ge hd).2
 have cal : ∀ q,calm (upd u t R') q → calm u q := by
  intro q c k S hk hl hh
  by_cases e : k = t
  ·subst e
   rw [hR] at hk
   cases hk
   exact absurd (h2.symm.trans hl) (by decide)
  ·exact c k S (by unfold upd; rw [if_neg e]; exact hk) hl hh
 have tht := Q.th t R hR
 have lot : ∀ k S,k ≠ t → u k = some S → Lo W' h S := by
  intro k S e hk
  have L := Q.lo k S hk
  exact {
   hd := fun j a b => by
    obtain ⟨k1,k2,k3,k4,k5⟩ := L.hd j a b
    exact ⟨k1,k2,by rw [hs _ k4 k5]; exact k3,k4,k5⟩
   nd := L.nd
   st := fun a => ⟨(L.st a).1,Int.le_trans (L.st a).2 hc0⟩
   sn := L.sn
   full := L.full
   km := fun a b c d => ⟨(L.km a b c d).1,(L.km a b c d).2.1,Int.le_trans (L.km a b c d).2.2 hc0⟩
   mkd := fun a b c => ⟨(L.mkd a b c).1,Int.le_trans (L.mkd a b c).2 hc0⟩
   ms := L.ms
   bg := L.bg
   va := L.va
   rdh := L.rdh
   ww := L.ww
   wr := L.wr
   pe := fun a b c x hx hh τ hτ => by
    have hp : 5 ≤ S.X.part ∧ S.X.part ≤ 10 := by rcases c with c | c <;> rw [c] <;> decide
    rw [hdat _ (data_at (fun w hw => (L.wr b hp.1 hp.2 w hw).1) hx)]
    exact L.pe a b c x hx hh τ hτ
   dn := fun a b c d hd hh hn τ hτ => by
    rw [hdat d hd]
    exact L.dn a b c d hd hh hn τ hτ }
 refine ⟨mi,wide (by rw [hth]; exact tht) fun k S _ hk => Q.th k S hk,fun q a b => by rw [hs q a b]; exact Int.le_trans (Q.vc q a b) hc0,fun q a b => ?_,wide lo lot, ?_, ?_, ?_,fun d hdd hc τ hτ => ?_,Q.sm⟩
 ·rw [hs q a b]
  rcases Q.ow q a b with k | ⟨k,S,k1,k2⟩
  ·exact .inl k
  ·right
   by_cases e2 : k = t
   ·subst e2
    rw [hR] at k1
    cases k1
    exact ⟨k,R',upd_self _ _ _,(hd q).2 k2⟩
   ·exact ⟨k,S,by unfold upd; rw [if_neg e2]; exact k1,k2⟩
 ·intro k S k' S' g1 g2 hne ha hp q hq
  rcases upd_cases g1 with ⟨rfl,rfl⟩ | ⟨a,b⟩
  ·rcases upd_cases g2 with ⟨rfl,rfl⟩ | ⟨a',b'⟩
   ·exact absurd rfl hne
   ·exact p1 k' S' a' b' ha hp q hq
  ·rcases upd_cases g2 with ⟨rfl,rfl⟩ | ⟨a',b'⟩
   ·rw [hst] at hp
    exact fun z => Q.pa k S k' R b hR hne hal hp q hq (hrd q z)
   ·exact Q.pa k S k' S' b b' hne ha hp q hq
 ·refine wide (fun ha hj hp => absurd (hj'.symm.trans hj) (by decide)) fun k S hk hu ha hj hp => ?_
  obtain ⟨k0,k1,k2,k3,k4⟩ := Q.r1 k S hu ha hj hp
  exact ⟨k0,k1,k2,by rw [k0.2,eh _ k0.1,← k0.2]; exact k3,wide (fun hl hh => absurd (h2'.symm.trans hl) (by decide)) fun k' S' _ hu' hl hh => k4 k' S' hu' hl hh⟩
 ·refine wide (fun ha hj hp hc => absurd (hj'.symm.trans hj) (by decide)) fun k S _ hu ha hj hp hc he => ?_
  have k0 := (Q.r1 k S hu ha hj (by rw [hp]; decide)).1
  rw [k0.2,eh _ k0.1,← k0.2] at he
  exact Q.r2 k S hu ha hj hp (cal _ hc) he
 ·rw [hdat d hdd]
  rw [eh d hdd] at hτ
  exact Q.da d hdd (cal _ hc) τ hτ
end Go.Proofs.Ytmjjljngaefpaaa

/- Opacity: a step of whoever is at work. -/
import Derived.Test.YtmjjljngaefpaaaOj
namespace Go.Proofs.Ytmjjljngaefpaaa
open Go.RowKit Go.Am Go.Sy
open Go.IntKind (i64 u64)
set_option linter.unusedVariables false
variable {n : Nat} {h : Int → Int → Int} {u : US} {t : Int} {R : RM}
theorem Sys.relab {W : List Int} (Q : Sys n W h u) (hR : u t = some R) (i : Nat) (busy : Bool) (en : Int) : Sys n W h (upd u t { R with i := i,busy := busy,end_ := en }) := by
 have L := Q.lo t R hR
 exact Q.quiet hR rfl (fun r => Iff.rfl) (fun r _ => .inl ⟨Iff.rfl,rfl⟩)
  { hd := L.hd,nd := L.nd,st := L.st,sn := L.sn,full := L.full,km := L.km,mkd := L.mkd,ms := L.ms,bg := L.bg,va := L.va,rdh := L.rdh,ww := L.ww,wr := L.wr,pe := L.pe,dn := L.dn }
  (fun t' S e hk ha hp => Q.pa t R t' S hR hk (Ne.symm e) ha hp) (fun ha t' S e hk hp => Q.pa t' S t R hk hR e ha hp) (fun ha => Q.r1 t R hR ha) (fun ha => Q.r2 t R hR ha)
theorem Sys.relab' {W : List Int} (Q : Sys n W h (upd u t R)) (i : Nat) (busy : Bool) (en : Int) : Sys n W h (upd u t { R with i := i,busy := busy,end_ := en }) := by
 have := Q.relab (upd_self u t R) i busy en
 rw [upd_upd] at this
 exact this
theorem sys_stp (Q : Sys n R.X.W h u) (hR : u t = some R) (hA : AI n R.X) (hj : R.X.job ≠ 0) (hn : n + 1 ≤ 1000) (hnr : ¬(R.X.job = 2 ∧ R.X.part = 2)) : ∃ h',Sys (n + 1) (stepX R.X).W h' (upd u t { R with X := stepX R.X }) := by
 have mi := (step_aft hA Q.mi hj (by omega)).mi
 have hS := hA.sb
 cases hA.kd with
 | no a _ => exact absurd a hj
 | op _ a _ => exact absurd a hj
 | b a1 a2 a3 a4 => exact ⟨h,sys_b Q hR a1 a2 a4⟩
 | r0 a1 a2 a3 a4 a5 a6 => exact ⟨h,sys_r0 Q hR a1 a2 a3 a4 a5 a6⟩
 | r1 a1 a2 a3 a4 a5 a6 => exact ⟨h,sys_r1 Q hR a1 a2 a3 a4⟩
 | r2 a1 a2 a3 a4 a5 a6 => exact absurd ⟨a2,a3⟩ hnr
 | m a1 a2 a3 a4 a5 => exact ⟨h,sys_m Q hR hS a1 a2 a3 a4 mi⟩
 | l a1 a2 a3 a4 a5 a6 a7 a8 a9 a10 a11 => exact ⟨h,sys_l Q hR hS a1 a2 a3 a4 a6 a9⟩
 | t a1 a2 a3 a4 a5 a6 a7 a8 a9 a10 a11 a12 => exact ⟨h,sys_t Q hR hS a1 a2 a3 a4 a6 a7 a9 a12 mi⟩
 | o a1 a2 a3 a4 a5 a6 a7 => exact sys_o Q hR hS hn a1 a2 a3 a4 a5 a7.1 a7.2.1 mi
 | k q a1 a2 a3 a4 a5 a6 a7 a8 a9 => exact sys_k Q hR hS hn a1 a2 a3 a4 a5 (by rw [a8.1,a7]) a8.2.1 (by rw [a8.2.2.1]; exact a9) mi
 | ch q a1 a2 a3 a4 a5 a6 a7 a8 a9 a10 => exact sys_ch Q hR hS hn a1 a2 a3 a4 a5 a8
 | w a1 a2 a3 a4 a5 a6 a7 => exact ⟨h,sys_w Q hR hS a1 a2 a3 a6 mi⟩
 | f a1 a2 a3 a4 a5 a6 => exact ⟨h,sys_f Q hR hS a1 a2 a3 a4 a5 mi⟩
 | e a1 a2 a3 a4 => exact ⟨h,sys_e Q hR hS a1 a2 a3 mi R.i R.busy R.end_ R.rd⟩
 | u a1 a2 a3 a4 => exact ⟨h,sys_u Q hR hS a1 a2 a3 a4 mi R.i R.busy R.end_⟩
end Go.Proofs.Ytmjjljngaefpaaa
/- Opacity: a run begins; what is asked of an attempt. -/
namespace Go.Proofs.Ytmjjljngaefpaaa
open Go.RowKit Go.Am Go.Sy
open Go.IntKind (i64 u64)
set_option linter.unusedVariables false
variable {n : Nat} {h : Int → Int → Int} {u : US} {t : Int} {R : RM} {W : List Int}
theorem no_tk {s : XM} (e : s.tk = []) (r : Int) : ¬Hd s r := by
 rintro ⟨j,_,b,_⟩
 rw [e] at b
 cases b
theorem Sys.fresh (Q : Sys n W h u) (ho : ∀ S,u t = some S → ∀ r,¬Hd S.X r) (ht : 0 ≤ t ∧ t < 3 ∧ R.X.th = t) (na : ¬alv R.X) (nh : ∀ r,¬Hd R.X r) (lo : Lo W h R) : Sys n W h (upd u t R) := by
 have cal : ∀ q,calm (upd u t R) q → calm u q := by
  intro q c k S hk hl hh
  by_cases e : k = t
  ·subst e
   exact absurd hh (ho S hk q)
  ·exact c k S (by unfold upd; rw [if_neg e]; exact hk) hl hh
 refine ⟨Q.mi,wide ht fun k S _ hk => Q.th k S hk,Q.vc,fun q a b => ?_,wide lo fun k S _ hk => Q.lo k S hk, ?_, ?_, ?_,fun d hd hc => Q.da d hd (cal _ hc),Q.sm⟩
 ·rcases Q.ow q a b with k | ⟨k,S,hk,hh⟩
  ·exact .inl k
  ·by_cases e : k = t
   ·subst e
    exact absurd hh (ho S hk q)
   ·exact .inr ⟨k,S,by unfold upd; rw [if_neg e]; exact hk,hh⟩
 ·intro k S k' S' h1 h2 hne ha hp r hr
  rcases upd_cases h2 with ⟨rfl,rfl⟩ | ⟨a',b'⟩
  ·exact absurd ha na
  ·rcases upd_cases h1 with ⟨rfl,rfl⟩ | ⟨a,b⟩
   ·exact absurd hr (nh r)
   ·exact Q.pa k S k' S' b b' hne ha hp r hr
 ·intro k S hk ha hj hp
  rcases upd_cases hk with ⟨rfl,rfl⟩ | ⟨a,b⟩
  ·exact absurd ha na
  ·obtain ⟨k0,k1,k2,k3,k4⟩ := Q.r1 k S b ha hj hp
   refine ⟨k0,k1,k2,k3,wide (fun _ hh => absurd hh (nh _)) fun k' S' _ hu' hl hh => k4 k' S' hu' hl hh⟩
 ·intro k S hk ha hj hp hc
  rcases upd_cases hk with ⟨rfl,rfl⟩ | ⟨a,b⟩
  ·exact absurd ha na
  ·exact Q.r2 k S b ha hj hp (cal _ hc)
theorem Lo.dead (na : ¬alv R.X) (e1 : R.X.tk = []) (e2 : R.X.rows = []) (e3 : R.X.job = 0 ∨ R.X.job = 1) (e4 : R.X.job = 1 → R.X.rs = [] ∧ R.rd = []) : Lo W h R := by
 have j4 : ¬R.X.job = 4 := by rcases e3 with e | e <;> rw [e] <;> decide
 exact {
  hd := fun j _ b => by rw [e1] at b; cases b
  nd := by rw [e2]; exact List.nodup_nil
  st := fun a => absurd a na
  sn := fun _ a => absurd a j4
  full := fun a => absurd a j4
  km := fun _ a => absurd a j4
  mkd := fun a => absurd a j4
  ms := fun _ a => absurd a j4
  bg := e4
  va := fun a => absurd a j4
  rdh := fun a => absurd a na
  ww := fun _ a => absurd a j4
  wr := fun a => absurd a j4
  pe := fun _ a => absurd a j4
  dn := fun _ a => absurd a j4 }
theorem Sys.rest (Q : Sys n W h u) (hR : u t = some R) {R' : RM} (al : alv R.X) (e1 : R.X.tk = []) (f0 : R'.X.th = R.X.th) (f1 : R'.X.tk = []) (f2 : R'.X.rows = [])
 (f3 : R'.X.job = 0 ∨ (R'.X.job = 2 ∧ R'.X.part = 0) ∨ (R'.X.job = 4 ∧ R'.X.part = 4)) (f4 : R'.X.life = 1) (f5 : R'.X.rs = R.X.rs) (f6 : R'.X.stamp = R.X.stamp) (f7 : R'.rd = R.rd) (f8 : R'.X.job = 4 → wOk R') : Sys n W h (upd u t R') := by
 have L := Q.lo t R hR
 have j2 : R'.X.job = 2 → R'.X.part = 0 := fun a => by omega
 have j4 : R'.X.job = 4 → R'.X.part = 4 := fun a => by omega
 have l2 : ¬R'.X.life = 2 := by rw [f4]; decide
 have l1 : ¬R.X.life = 2 := by rw [al.1]; decide
 refine Q.quiet hR f0 (fun r => ⟨fun a => absurd a (no_tk f1 r),fun a => absurd a (no_tk e1 r)⟩) (fun r a => absurd a (no_tk e1 r)) ?_ (fun _ _ _ _ _ _ r a => absurd a (no_tk f1 r)) (fun _ t' S e hk hp r hr hs => ?_) (fun _ a b => absurd (j2 a) b) (fun _ a b => absurd b (by rw [j2 a]; decide))
 ·exact {
   hd := fun j _ b => by rw [f1] at b; cases b
   nd := by rw [f2]; exact List.nodup_nil
   st := fun _ => by rw [f6]; exact L.st al
   sn := fun _ a b => by have := j4 a; omega
   full := fun a b _ => by have := j4 a; omega
   km := fun _ a b => by have := j4 a; omega
   mkd := fun a b _ => by have := j4 a; omega
   ms := fun _ a b => by have := j4 a; omega
   bg := fun a => by omega
   va := fun a b => by have := j4 a; omega
   rdh := fun _ w hw => by
    rw [f7] at hw
    rw [f5,f6]
    exact L.rdh al w hw
   ww := fun _ a => f8 a
   wr := fun a b _ => by have := j4 a; omega
   pe := fun a => absurd a l2
   dn := fun a => absurd a l2 }
 ·refine Q.pa t' S t R hk hR e al (by rw [f6] at hp; exact hp) r hr ?_
  rcases hs with ⟨w,hw,e⟩ | ⟨a,b,_⟩
  ·rw [f5] at hw
   exact .inl ⟨w,hw,e⟩
  ·exact absurd (j2 a) b
theorem Sys.memo (Q : Sys n W h u) (hR : u t = some R) (M : XM) : Sys n W h (upd u t { R with X := memX R.X M }) := by
 have L := Q.lo t R hR
 exact Q.quiet hR rfl (fun r => Iff.rfl) (fun r _ => .inl ⟨Iff.rfl,rfl⟩)
  { hd := L.hd,nd := L.nd,st := L.st,sn := L.sn,full := L.full,km := L.km,mkd := L.mkd,ms := L.ms,bg := L.bg,va := L.va,rdh := L.rdh,ww := L.ww,wr := L.wr,pe := L.pe,dn := L.dn }
  (fun t' S e hk ha hp => Q.pa t R t' S hR hk (Ne.symm e) ha hp) (fun ha t' S e hk hp => Q.pa t' S t R hk hR e ha hp) (fun ha => Q.r1 t R hR ha) (fun ha => Q.r2 t R hR ha)
end Go.Proofs.Ytmjjljngaefpaaa
/- A step keeps what is written, the place that is read, the thread. -/
namespace Go.Proofs.Ytmjjljngaefpaaa
open Go.RowKit Go.Am Go.Sy
open Go.IntKind (i64 u64)
set_option linter.unusedVariables false
def Kp (s s' : XM) : Prop := s'.ws = s.ws ∧ s'.at_ = s.at_ ∧ s'.th = s.th
theorem kp_bif {s a b : XM} {c : Bool} (h1 : Kp s a) (h2 : Kp s b) : Kp s (bif c then a else b) := by cases c <;> assumption
theorem kp_ite {s a b : XM} {c : Prop} [Decidable c] (h1 : Kp s a) (h2 : Kp s b) : Kp s (if c then a else b) := by split <;> assumption
theorem kp_ab {s x : XM} (c : Int) (h : Kp s x) : Kp s (abX c x) := by unfold abX; exact kp_bif h h
theorem kp_de {s x : XM} (h : Kp s x) : Kp s (deX x) := h
theorem kp_go {s x : XM} (k : Nat) (kI : Int) (h : Kp s x) : Kp s (goX k kI x) := by unfold goX; exact kp_bif (kp_bif (kp_de h) h) (kp_de h)
theorem kp_bu {s x : XM} (v : Int) (h : Kp s x) : Kp s (buX v x) := by unfold buX; exact kp_bif (kp_ab _ h) (kp_go _ _ h)
theorem step_kp (s : XM) : Kp s (stepX s) := by
 unfold stepX readX' lockX markX bumpX chX endX
 repeat' first
  | apply kp_ite
  | apply kp_bif
  | apply kp_ab
  | apply kp_bu
  | apply kp_go
  | exact ⟨rfl,rfl,rfl⟩
end Go.Proofs.Ytmjjljngaefpaaa

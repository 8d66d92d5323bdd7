/- Opacity, as plain law: what attempts that read, lock, bump, check and write by steps see, told by a ghost: the value of a place at a time. -/
import Derived.Test.YtmjjljngaefpaaaPv
namespace Go.Proofs.Ytmjjljngaefpaaa
open Go.RowKit Go.Am Go.Sy
open Go.IntKind (i64 u64)
set_option linter.unusedVariables false
structure RM where
 X : XM
 mv : Bool
 f : Int
 g : Int
 m : Int
 i : Nat
 busy : Bool
 end_ : Int
 rd : List Wo
abbrev US := Int → Option RM
abbrev sv (W : List Int) (r : Int) : Int := at0 W (2 + r)
def frm (s : XM) : Nat := if s.job = 4 then (if s.part = 10 then s.i else if s.part = 11 then s.tk.length else 0) else if s.job = 5 then s.i else s.tk.length
def Hd (s : XM) (r : Int) : Prop := ∃ j : Nat,frm s ≤ j ∧ j < s.tk.length ∧ at0 s.rows (j : Int) = r
def RdS (s : XM) (r : Int) : Prop := (∃ w ∈ s.rs,w.pl = r) ∨ (s.job = 2 ∧ s.part ≠ 0 ∧ s.row = r)
def calm (u : US) (r : Int) : Prop := ∀ t R,u t = some R → R.X.life = 2 → ¬Hd R.X r
def Pro (s : XM) (S : Int) : Prop := (s.life = 1 ∧ s.job = 4 ∧ s.part = 7 ∧ s.bst = 1 ∧ s.bse < S) ∨ (s.job = 4 ∧ (s.part = 8 ∨ s.part = 9 ∨ s.part = 10) ∧ s.made ≤ S)
def alv (s : XM) : Prop := s.life = 1 ∧ s.job ≠ 1
def wOk (R : RM) : Prop := R.X.ws = [] ∨ ∃ a b : Int,R.rd = [⟨R.f,a⟩,⟨R.g,b⟩] ∧ R.X.ws = [⟨26 + 2 * R.f,i64.wrap (a + -R.m)⟩,⟨26 + 2 * R.g,i64.wrap (b + R.m)⟩] ∧ R.f ≠ R.g
structure Lo (W : List Int) (h : Int → Int → Int) (R : RM) : Prop where
 hd : ∀ j : Nat,frm R.X ≤ j → j < R.X.tk.length → (at3 R.X.tk (j : Int)).vl % 16 = 0 ∧ 0 ≤ (at3 R.X.tk (j : Int)).vl ∧ sv W (at0 R.X.rows (j : Int)) = (at3 R.X.tk (j : Int)).vl + R.X.th + 1 ∧ 0 ≤ at0 R.X.rows (j : Int) ∧ at0 R.X.rows (j : Int) < 3
 nd : R.X.rows.Nodup
 st : alv R.X → 0 ≤ R.X.stamp ∧ R.X.stamp ≤ at0 W 0
 sn : R.X.life = 1 → R.X.job = 4 → R.X.part = 6 → R.X.seen % 16 = 0
 full : R.X.job = 4 → 7 ≤ R.X.part → R.X.part ≤ 10 → R.X.tk.length = R.X.rows.length
 km : R.X.life = 1 → R.X.job = 4 → R.X.part = 7 → R.X.bst = 1 → (∀ j : Nat,j < R.X.tk.length → (at3 R.X.tk (j : Int)).vl / 16 ≤ R.X.bse) ∧ R.X.stamp ≤ R.X.bse ∧ R.X.bse ≤ at0 W 0
 mkd : R.X.job = 4 → 8 ≤ R.X.part → R.X.part ≤ 10 → (∀ j : Nat,frm R.X ≤ j → j < R.X.tk.length → (at3 R.X.tk (j : Int)).vl / 16 < R.X.made) ∧ R.X.made ≤ at0 W 0
 ms : R.X.life = 1 → R.X.job = 4 → R.X.part = 8 → R.X.stamp ≤ R.X.made
 bg : R.X.job = 1 → R.X.rs = [] ∧ R.rd = []
 va : R.X.job = 4 → R.X.part = 8 → ∀ x : Nat,x < R.X.i → x < R.X.rs.length → ∀ j : Nat,j < R.X.tk.length → at0 R.X.rows (j : Int) = (at3 R.X.rs (x : Int)).pl → (at3 R.X.tk (j : Int)).vl / 16 ≤ R.X.stamp
 rdh : alv R.X → ∀ w ∈ R.rd,isData (26 + 2 * w.pl) ∧ w.vl = h R.X.stamp (26 + 2 * w.pl) ∧ ∃ x ∈ R.X.rs,x.pl = hashT (26 + 2 * w.pl)
 ww : R.X.life = 1 → R.X.job = 4 → wOk R
 wr : R.X.job = 4 → 5 ≤ R.X.part → R.X.part ≤ 10 → ∀ w ∈ R.X.ws,isData w.pl ∧ ∃ j : Nat,j < R.X.rows.length ∧ at0 R.X.rows (j : Int) = hashT w.pl
 pe : R.X.life = 2 → R.X.job = 4 → (R.X.part = 9 ∨ R.X.part = 10) → ∀ x : Nat,x < R.X.ws.length → Hd R.X (hashT (at3 R.X.ws (x : Int)).pl) → ∀ τ,R.X.made ≤ τ → h τ (at3 R.X.ws (x : Int)).pl = if R.X.part = 9 ∧ R.X.i ≤ x then (at3 R.X.ws (x : Int)).vl else at0 W (at3 R.X.ws (x : Int)).pl
 dn : R.X.life = 2 → R.X.job = 4 → (R.X.part = 9 ∨ R.X.part = 10) → ∀ d,isData d → Hd R.X (hashT d) → (∀ w ∈ R.X.ws,w.pl ≠ d) → ∀ τ,R.X.made ≤ τ → h τ d = at0 W d
def sumH (h : Int → Int → Int) (τ : Int) : Int := h τ 26 + h τ 28 + h τ 30 + h τ 32
structure Sys (n : Nat) (W : List Int) (h : Int → Int → Int) (u : US) : Prop where
 mi : MI n W
 th : ∀ t R,u t = some R → 0 ≤ t ∧ t < 3 ∧ R.X.th = t
 vc : ∀ r,0 ≤ r → r < 3 → sv W r / 16 ≤ at0 W 0
 ow : ∀ r,0 ≤ r → r < 3 → sv W r % 16 = 0 ∨ ∃ t R,u t = some R ∧ Hd R.X r
 lo : ∀ t R,u t = some R → Lo W h R
 pa : ∀ t R t' R',u t = some R → u t' = some R' → t ≠ t' → alv R'.X → Pro R.X R'.X.stamp → ∀ r,Hd R.X r → ¬RdS R'.X r
 r1 : ∀ t R,u t = some R → alv R.X → R.X.job = 2 → R.X.part ≠ 0 → (isData R.X.at_ ∧ R.X.row = hashT R.X.at_) ∧ R.X.seen % 16 = 0 ∧ R.X.seen / 16 ≤ R.X.stamp ∧ R.X.seen / 16 ≤ sv W R.X.row / 16 ∧ ∀ t' R',u t' = some R' → R'.X.life = 2 → Hd R'.X R.X.row → R.X.seen / 16 < R'.X.made
 r2 : ∀ t R,u t = some R → alv R.X → R.X.job = 2 → R.X.part = 2 → calm u R.X.row → sv W R.X.row / 16 = R.X.seen / 16 → R.X.val = h R.X.stamp R.X.at_
 da : ∀ d,isData d → calm u (hashT d) → ∀ τ,sv W (hashT d) / 16 ≤ τ → h τ d = at0 W d
 sm : ∀ τ,i64.wrap (sumH h τ) = 40
theorem Lo.mod {W : List Int} {h : Int → Int → Int} {R : RM} (L : Lo W h R) (ht : 0 ≤ R.X.th ∧ R.X.th < 3) {r : Int} (hr : Hd R.X r) : sv W r % 16 = R.X.th + 1 ∧ 0 ≤ r ∧ r < 3 := by
 obtain ⟨j,h1,h2,rfl⟩ := hr
 obtain ⟨k1,k2,k3,k4,k5⟩ := L.hd j h1 h2
 exact ⟨by rw [k3]; omega,k4,k5⟩
theorem Sys.one {n : Nat} {W : List Int} {h : Int → Int → Int} {u : US} (Q : Sys n W h u) {t t' : Int} {R R' : RM} (h1 : u t = some R) (h2 : u t' = some R') {r : Int} (k1 : Hd R.X r) (k2 : Hd R'.X r) : t = t' := by
 have a := Q.th t R h1
 have b := Q.th t' R' h2
 have c := (Q.lo t R h1).mod (by omega) k1
 have d := (Q.lo t' R' h2).mod (by omega) k2
 omega
theorem Sys.free {n : Nat} {W : List Int} {h : Int → Int → Int} {u : US} (Q : Sys n W h u) {r : Int} (h0 : sv W r % 16 = 0) {t : Int} {R : RM} (h1 : u t = some R) : ¬Hd R.X r := by
 intro k
 have a := Q.th t R h1
 have := (Q.lo t R h1).mod (by omega) k
 omega
def upd (u : US) (t : Int) (R : RM) : US := fun k => if k = t then some R else u k
theorem upd_self (u : US) (t : Int) (R : RM) : upd u t R t = some R := by unfold upd; rw [if_pos rfl]
theorem upd_cases {u : US} {t k : Int} {R Q : RM} (h : upd u t R k = some Q) : (k = t ∧ Q = R) ∨ (k ≠ t ∧ u k = some Q) := by
 unfold upd at h
 split at h
 ·rename_i e
  exact .inl ⟨e,(Option.some.inj h).symm⟩
 ·rename_i e
  exact .inr ⟨e,h⟩
theorem Sys.quiet {n : Nat} {W : List Int} {h : Int → Int → Int} {u : US} (Q : Sys n W h u) {t : Int} {R R' : RM} (hR : u t = some R) (hth : R'.X.th = R.X.th)
 (hd : ∀ r,Hd R'.X r ↔ Hd R.X r) (dc : ∀ r,Hd R.X r → (R'.X.life = 2 ↔ R.X.life = 2) ∧ R'.X.made = R.X.made ∨ (R'.X.life ≠ 2 ∧ R.X.life ≠ 2)) (lo : Lo W h R')
 (p1 : ∀ t' S,t' ≠ t → u t' = some S → alv S.X → Pro R'.X S.X.stamp → ∀ r,Hd R'.X r → ¬RdS S.X r)
 (p2 : alv R'.X → ∀ t' S,t' ≠ t → u t' = some S → Pro S.X R'.X.stamp → ∀ r,Hd S.X r → ¬RdS R'.X r)
 (r1 : alv R'.X → R'.X.job = 2 → R'.X.part ≠ 0 → (isData R'.X.at_ ∧ R'.X.row = hashT R'.X.at_) ∧ R'.X.seen % 16 = 0 ∧ R'.X.seen / 16 ≤ R'.X.stamp ∧ R'.X.seen / 16 ≤ sv W R'.X.row / 16 ∧ ∀ t' S,u t' = some S → S.X.life = 2 → Hd S.X R'.X.row → R'.X.seen / 16 < S.X.made)
 (r2 : alv R'.X → R'.X.job = 2 → R'.X.part = 2 → calm u R'.X.row → sv W R'.X.row / 16 = R'.X.seen / 16 → R'.X.val = h R'.X.stamp R'.X.at_) : Sys n W h (upd u t R') := by
 have dec : ∀ r,(R'.X.life = 2 ∧ Hd R'.X r) ↔ (R.X.life = 2 ∧ Hd R.X r) := by
  intro r
  rw [hd]
  constructor
  ·rintro ⟨a,b⟩
   rcases dc r b with k | k
   ·exact ⟨k.1.1 a,b⟩
   ·exact absurd a k.1
  ·rintro ⟨a,b⟩
   rcases dc r b with k | k
   ·exact ⟨k.1.2 a,b⟩
   ·exact absurd a k.2
 have cal : ∀ r,calm (upd u t R') r → calm u r := by
  intro r c k S hk hl hh
  by_cases e : k = t
  ·subst e
   rw [hR] at hk
   cases hk
   obtain ⟨a,b⟩ := (dec r).2 ⟨hl,hh⟩
   exact c k R' (upd_self _ _ _) a b
  ·exact c k S (by unfold upd; rw [if_neg e]; exact hk) hl hh
 have wide : ∀ {P : Int → RM → Prop},P t R' → (∀ k S,k ≠ t → u k = some S → P k S) → ∀ k S,upd u t R' k = some S → P k S := by
  intro P h1 h2 k S hk
  rcases upd_cases hk with ⟨rfl,rfl⟩ | ⟨a,b⟩
  ·exact h1
  ·exact h2 k S a b
 have tht := Q.th t R hR
 refine ⟨Q.mi,wide (by rw [hth]; exact tht) fun k S _ hk => Q.th k S hk,Q.vc,fun r a b => ?_,wide lo fun k S _ hk => Q.lo k S hk, ?_, ?_, ?_,fun d hdd hc => Q.da d hdd (cal _ hc),Q.sm⟩
 ·rcases Q.ow r a b with k | ⟨k,S,k1,k2⟩
  ·exact .inl k
  ·right
   by_cases e : k = t
   ·subst e
    rw [hR] at k1
    cases k1
    exact ⟨k,R',upd_self _ _ _,(hd r).2 k2⟩
   ·exact ⟨k,S,by unfold upd; rw [if_neg e]; exact k1,k2⟩
 ·intro k S k' S' h1 h2 hne ha hp r hr
  rcases upd_cases h1 with ⟨rfl,rfl⟩ | ⟨a,b⟩
  ·rcases upd_cases h2 with ⟨rfl,rfl⟩ | ⟨a',b'⟩
   ·exact absurd rfl hne
   ·exact p1 k' S' a' b' ha hp r hr
  ·rcases upd_cases h2 with ⟨rfl,rfl⟩ | ⟨a',b'⟩
   ·exact p2 ha k S a b hp r hr
   ·exact Q.pa k S k' S' b b' hne ha hp r hr
 ·refine wide (fun ha hj hp => ?_) fun k S hk hu ha hj hp => ?_
  ·obtain ⟨k0,k1,k2,k3,k4⟩ := r1 ha hj hp
   refine ⟨k0,k1,k2,k3,wide (fun hl hh => ?_) fun k' S' _ hu' hl hh => k4 k' S' hu' hl hh⟩
   obtain ⟨a,b⟩ := (dec _).1 ⟨hl,hh⟩
   rcases dc _ b with q | q
   ·rw [q.2]; exact k4 t R hR a b
   ·exact absurd a q.2
  ·obtain ⟨k0,k1,k2,k3,k4⟩ := Q.r1 k S hu ha hj hp
   refine ⟨k0,k1,k2,k3,wide (fun hl hh => ?_) fun k' S' _ hu' hl hh => k4 k' S' hu' hl hh⟩
   obtain ⟨a,b⟩ := (dec _).1 ⟨hl,hh⟩
   rcases dc _ b with q | q
   ·rw [q.2]; exact k4 t R hR a b
   ·exact absurd a q.2
 ·exact wide (fun ha hj hp hc => r2 ha hj hp (cal _ hc)) fun k S _ hu ha hj hp hc => Q.r2 k S hu ha hj hp (cal _ hc)
theorem wide {u : US} {t : Int} {R' : RM} {P : Int → RM → Prop} (h1 : P t R') (h2 : ∀ k S,k ≠ t → u k = some S → P k S) : ∀ k S,upd u t R' k = some S → P k S := by
 intro k S hk
 rcases upd_cases hk with ⟨rfl,rfl⟩ | ⟨a,b⟩
 ·exact h1
 ·exact h2 k S a b
def Alike (W W' : List Int) : Prop := (∀ a : Int,0 ≤ a → a < 5 → at0 W' a = at0 W a) ∧ ∀ d,isData d → at0 W' d = at0 W d
theorem data_at {l : List Wo} (h : ∀ w ∈ l,isData w.pl) {n : Nat} (hn : n < l.length) : isData (at3 l (n : Int)).pl := by
 rw [at3_get hn]
 exact h _ (List.getElem_mem _)
theorem Lo.alike {W W' : List Int} {h : Int → Int → Int} {R : RM} (A : Alike W W') (L : Lo W h R) : Lo W' h R := by
 have e0 : at0 W' 0 = at0 W 0 := A.1 0 (by decide) (by decide)
 have es : ∀ r,0 ≤ r → r < 3 → sv W' r = sv W r := fun r a b => A.1 (2 + r) (by omega) (by omega)
 exact {
  hd := fun j a b => by
   obtain ⟨k1,k2,k3,k4,k5⟩ := L.hd j a b
   exact ⟨k1,k2,by rw [es _ k4 k5]; exact k3,k4,k5⟩
  nd := L.nd
  st := by rw [e0]; exact L.st
  sn := L.sn
  full := L.full
  km := by rw [e0]; exact L.km
  mkd := by rw [e0]; exact L.mkd
  ms := L.ms
  bg := L.bg
  va := L.va
  rdh := L.rdh
  ww := L.ww
  wr := L.wr
  pe := fun a b c x hx hh τ hτ => by
   have hp : 5 ≤ R.X.part ∧ R.X.part ≤ 10 := by rcases c with c | c <;> rw [c] <;> decide
   rw [A.2 _ (data_at (fun w hw => (L.wr b hp.1 hp.2 w hw).1) hx)]
   exact L.pe a b c x hx hh τ hτ
  dn := fun a b c d hd hh hn τ hτ => by
   rw [A.2 d hd]
   exact L.dn a b c d hd hh hn τ hτ }
theorem Sys.alike {n n' : Nat} {W W' : List Int} {h : Int → Int → Int} {u : US} (Q : Sys n W h u) (A : Alike W W') (mi : MI n' W') : Sys n' W' h u := by
 have e0 : at0 W' 0 = at0 W 0 := A.1 0 (by decide) (by decide)
 have es : ∀ r,0 ≤ r → r < 3 → sv W' r = sv W r := fun r a b => A.1 (2 + r) (by omega) (by omega)
 have eh : ∀ d,isData d → sv W' (hashT d) = sv W (hashT d) := fun d hd => es _ (hash_ge hd).1 (hash_ge hd).2
 refine ⟨mi,Q.th,fun r a b => by rw [es r a b,e0]; exact Q.vc r a b,fun r a b => by rw [es r a b]; exact Q.ow r a b,fun t R hk => (Q.lo t R hk).alike A,Q.pa, ?_, ?_,fun d hd hc τ hτ => ?_,Q.sm⟩
 ·intro t R hk ha hj hp
  obtain ⟨k0,k1,k2,k3,k4⟩ := Q.r1 t R hk ha hj hp
  exact ⟨k0,k1,k2,by rw [k0.2,eh _ k0.1,← k0.2]; exact k3,k4⟩
 ·intro t R hk ha hj hp hc he
  have k0 := (Q.r1 t R hk ha hj (by rw [hp]; decide)).1
  rw [k0.2,eh _ k0.1,← k0.2] at he
  exact Q.r2 t R hk ha hj hp hc he
 ·rw [A.2 d hd]
  rw [eh d hd] at hτ
  exact Q.da d hd hc τ hτ
def Turn (W W' : List Int) (r v : Int) : Prop := (0 ≤ r ∧ r < 3) ∧ sv W' r = v ∧ (∀ q,0 ≤ q → q < 3 → q ≠ r → sv W' q = sv W q) ∧ at0 W' 0 = at0 W 0 ∧ ∀ d,isData d → at0 W' d = at0 W d
theorem Lo.turn {W W' : List Int} {h : Int → Int → Int} {R : RM} {r v : Int} (A : Turn W W' r v) (L : Lo W h R) (hr : ¬Hd R.X r) : Lo W' h R := by
 obtain ⟨a1,a2,a3,a4,a5⟩ := A
 exact {
  hd := fun j a b => by
   obtain ⟨k1,k2,k3,k4,k5⟩ := L.hd j a b
   exact ⟨k1,k2,by rw [a3 _ k4 k5 fun e => hr ⟨j,a,b,e⟩]; exact k3,k4,k5⟩
  nd := L.nd
  st := by rw [a4]; exact L.st
  sn := L.sn
  full := L.full
  km := by rw [a4]; exact L.km
  mkd := by rw [a4]; exact L.mkd
  ms := L.ms
  bg := L.bg
  va := L.va
  rdh := L.rdh
  ww := L.ww
  wr := L.wr
  pe := fun a b c x hx hh τ hτ => by
   have hp : 5 ≤ R.X.part ∧ R.X.part ≤ 10 := by rcases c with c | c <;> rw [c] <;> decide
   rw [a5 _ (data_at (fun w hw => (L.wr b hp.1 hp.2 w hw).1) hx)]
   exact L.pe a b c x hx hh τ hτ
  dn := fun a b c d hd hh hn τ hτ => by
   rw [a5 d hd]
   exact L.dn a b c d hd hh hn τ hτ }
theorem Sys.mark {n n' : Nat} {W W' : List Int} {h : Int → Int → Int} {u : US} (Q : Sys n W h u) {t : Int} {R R' : RM} (hR : u t = some R) (hth : R'.X.th = R.X.th) {r v : Int} (A : Turn W W' r v) (mi : MI n' W') (hv : v / 16 = sv W r / 16)
 (ot : ∀ k S,k ≠ t → u k = some S → ¬Hd S.X r) (hd : ∀ q,q ≠ r → (Hd R'.X q ↔ Hd R.X q)) (hr : Hd R'.X r ∨ v % 16 = 0)
 (nl : R'.X.life ≠ 2 ∧ R.X.life ≠ 2) (lo : Lo W' h R') (al : alv R'.X → alv R.X ∧ R'.X.stamp = R.X.stamp ∧ (∀ q,RdS R'.X q → RdS R.X q)) (nj : R'.X.job ≠ 2) (np : ∀ S,¬Pro R'.X S) : Sys n' W' h (upd u t R') := by
 have A' := A
 obtain ⟨a1,a2,a3,a4,a5⟩ := A
 have ver : ∀ q,0 ≤ q → q < 3 → sv W' q / 16 = sv W q / 16 := by
  intro q h0 h1
  by_cases e : q = r
  ·rw [e,a2]; exact hv
  ·rw [a3 q h0 h1 e]
 have eh : ∀ d,isData d → sv W' (hashT d) / 16 = sv W (hashT d) / 16 := fun d hd => ver _ (hash_ge hd).1 (hash_ge hd).2
 have cal : ∀ q,calm (upd u t R') q → calm u q := by
  intro q c k S hk hl hh
  by_cases e : k = t
  ·subst e
   rw [hR] at hk
   cases hk
   exact nl.2 hl
  ·exact c k S (by unfold upd; rw [if_neg e]; exact hk) hl hh
 have tht := Q.th t R hR
 refine ⟨mi,wide (by rw [hth]; exact tht) fun k S _ hk => Q.th k S hk,fun q a b => by rw [ver q a b,a4]; exact Q.vc q a b,fun q a b => ?_,wide lo fun k S e hk => (Q.lo k S hk).turn A' (ot k S e hk), ?_, ?_, ?_,fun d hdd hc τ hτ => ?_,Q.sm⟩
 ·by_cases e : q = r
  ·rcases hr with k | k
   ·exact .inr ⟨t,R',upd_self _ _ _,by rw [e]; exact k⟩
   ·left; rw [e,a2]; exact k
  ·rw [a3 q a b e]
   rcases Q.ow q a b with k | ⟨k,S,k1,k2⟩
   ·exact .inl k
   ·right
    by_cases e2 : k = t
    ·subst e2
     rw [hR] at k1
     cases k1
     exact ⟨k,R',upd_self _ _ _,(hd q e).2 k2⟩
    ·exact ⟨k,S,by unfold upd; rw [if_neg e2]; exact k1,k2⟩
 ·intro k S k' S' h1 h2 hne ha hp q hq
  rcases upd_cases h1 with ⟨rfl,rfl⟩ | ⟨a,b⟩
  ·exact absurd hp (np _)
  ·rcases upd_cases h2 with ⟨rfl,rfl⟩ | ⟨a',b'⟩
   ·obtain ⟨g1,g2,g3⟩ := al ha
    rw [g2] at hp
    exact fun z => Q.pa k S k' R b hR hne g1 hp q hq (g3 q z)
   ·exact Q.pa k S k' S' b b' hne ha hp q hq
 ·refine wide (fun ha hj hp => absurd hj nj) fun k S hk hu ha hj hp => ?_
  obtain ⟨k0,k1,k2,k3,k4⟩ := Q.r1 k S hu ha hj hp
  refine ⟨k0,k1,k2,by rw [k0.2,eh _ k0.1,← k0.2]; exact k3,wide (fun hl hh => absurd hl nl.1) fun k' S' _ hu' hl hh => k4 k' S' hu' hl hh⟩
 ·refine wide (fun ha hj hp hc => absurd hj nj) fun k S _ hu ha hj hp hc he => ?_
  have k0 := (Q.r1 k S hu ha hj (by rw [hp]; decide)).1
  rw [k0.2,eh _ k0.1,← k0.2] at he
  exact Q.r2 k S hu ha hj hp (cal _ hc) he
 ·rw [a5 d hdd]
  rw [eh d hdd] at hτ
  exact Q.da d hdd (cal _ hc) τ hτ
end Go.Proofs.Ytmjjljngaefpaaa

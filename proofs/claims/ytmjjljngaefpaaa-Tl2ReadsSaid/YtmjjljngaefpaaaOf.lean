/- Opacity: marked, locked: what is kept. -/
import Derived.Test.YtmjjljngaefpaaaOe
namespace Go.Proofs.Ytmjjljngaefpaaa
open Go.RowKit Go.Am Go.Sy
open Go.IntKind (i64 u64)
set_option linter.unusedVariables false
theorem Lo.lock {W : List Int} {h : Int → Int → Int} {R : RM} (hl : R.X.life = 1) (hj : R.X.job = 4) (hp : 5 ≤ R.X.part ∧ R.X.part ≤ 7) (nd : R.X.rows.Nodup)
 (hd : ∀ j : Nat,j < R.X.tk.length → (at3 R.X.tk (j : Int)).vl % 16 = 0 ∧ 0 ≤ (at3 R.X.tk (j : Int)).vl ∧ sv W (at0 R.X.rows (j : Int)) = (at3 R.X.tk (j : Int)).vl + R.X.th + 1 ∧ 0 ≤ at0 R.X.rows (j : Int) ∧ at0 R.X.rows (j : Int) < 3)
 (st : 0 ≤ R.X.stamp ∧ R.X.stamp ≤ at0 W 0) (sn : R.X.part = 6 → R.X.seen % 16 = 0) (full : R.X.part = 7 → R.X.tk.length = R.X.rows.length)
 (km : R.X.part = 7 → R.X.bst = 1 → (∀ j : Nat,j < R.X.tk.length → (at3 R.X.tk (j : Int)).vl / 16 ≤ R.X.bse) ∧ R.X.stamp ≤ R.X.bse ∧ R.X.bse ≤ at0 W 0)
 (rdh : ∀ w ∈ R.rd,isData (26 + 2 * w.pl) ∧ w.vl = h R.X.stamp (26 + 2 * w.pl) ∧ ∃ x ∈ R.X.rs,x.pl = hashT (26 + 2 * w.pl)) (ww : wOk R)
 (wr : ∀ w ∈ R.X.ws,isData w.pl ∧ ∃ j : Nat,j < R.X.rows.length ∧ at0 R.X.rows (j : Int) = hashT w.pl) : Lo W h R where
 hd := fun j _ b => hd j b
 nd := nd
 st := fun _ => st
 sn := fun _ _ => sn
 full := fun _ a b => full (by omega)
 km := fun _ _ => km
 mkd := fun _ a => by omega
 ms := fun _ _ a => by omega
 bg := fun a => by omega
 va := fun _ a => by omega
 rdh := fun _ => rdh
 ww := fun _ _ => ww
 wr := fun _ _ _ => wr
 pe := fun a => by omega
 dn := fun a => by omega
theorem rowsT_nd (l : List Int) : (rowsT l).Nodup := by
 unfold rowsT
 cases inR 0 l <;> cases inR 1 l <;> cases inR 2 l <;> decide
theorem rowsT_in {l : List Int} {a : Int} (ha : a ∈ l) (hd : isData a) : hashT a ∈ rowsT l := by
 have hin : inR (hashT a) l = true := List.any_eq_true.2 ⟨a,ha,by simp⟩
 unfold rowsT
 rcases hash_three hd with e | e | e
 ·rw [e] at hin ⊢; rw [if_pos hin]; exact List.mem_append.2 (.inl List.mem_cons_self)
 ·rw [e] at hin ⊢; rw [if_pos hin]; exact List.mem_append.2 (.inr (List.mem_append.2 (.inl List.mem_cons_self)))
 ·rw [e] at hin ⊢; rw [if_pos hin]; exact List.mem_append.2 (.inr (List.mem_append.2 (.inr List.mem_cons_self)))
theorem at_mem {l : List Int} {a : Int} (ha : a ∈ l) : ∃ j : Nat,j < l.length ∧ at0 l (j : Int) = a := by
 obtain ⟨j,hj,e⟩ := List.mem_iff_getElem.1 ha
 exact ⟨j,hj,by rw [at0_get hj]; exact e⟩
theorem at_inj {l : List Int} (hn : l.Nodup) {i j : Nat} (hi : i < l.length) (hj : j < l.length) (e : at0 l (i : Int) = at0 l (j : Int)) : i = j := by
 rw [at0_get hi,at0_get hj] at e
 exact (List.getElem_inj hn).1 e
theorem alike_hi {W : List Int} (hW : W.length = 34) {a v : Int} (h0 : 5 ≤ a) (h1 : a < 34) (hd : ∀ d,isData d → a ≠ d) : Alike W (W.set a.toNat v) := by
 refine ⟨fun b b0 b1 => ?_,fun d hdd => ?_⟩
 ·rw [at0_set hW (by omega) h1 b0 (by omega),if_neg (by omega)]
 ·have := data_lt hdd
  rw [at0_set hW (by omega) h1 this.1 this.2,if_neg (hd d hdd)]
theorem turn_set {W : List Int} (hW : W.length = 34) {r v : Int} (h0 : 0 ≤ r) (h1 : r < 3) : Turn W (W.set (2 + r).toNat v) r v := by
 refine ⟨⟨h0,h1⟩, ?_,fun q a b e => ?_, ?_,fun d hdd => ?_⟩
 ·show at0 _ (2 + r) = v
  rw [at0_set hW (by omega) (by omega) (by omega) (by omega),if_pos rfl]
 ·show at0 _ (2 + q) = at0 W (2 + q)
  rw [at0_set hW (by omega) (by omega) (by omega) (by omega),if_neg (by omega)]
 ·rw [at0_set hW (by omega) (by omega) (by decide) (by decide),if_neg (by omega)]
 ·have := data_lt hdd
  have : d ≥ 26 := by rcases hdd with e | e | e | e <;> omega
  rw [at0_set hW (by omega) (by omega) (by omega) (by omega),if_neg (by omega)]
variable {n : Nat} {h : Int → Int → Int} {u : US} {t : Int} {R : RM}
theorem sys_m (Q : Sys n R.X.W h u) (hR : u t = some R) (hS : SB R.X) (e1 : R.X.life = 1) (e2 : R.X.job = 4) (e3 : R.X.part = 4) (p0 : clear R.X) (mi : MI (n + 1) (stepX R.X).W) : Sys (n + 1) (stepX R.X).W h (upd u t { R with X := stepX R.X }) := by
 have L := Q.lo t R hR
 have hth := hS.th
 have hal : alv R.X := ⟨e1,by rw [e2]; decide⟩
 have e : stepX R.X = markX R.X := by unfold stepX; rw [if_neg (by rw [e2]; decide),if_neg (by rw [e2]; decide),if_pos e2,if_pos e3]
 rw [e] at mi ⊢
 have A : Alike R.X.W (R.X.W.set (11 + 2 * R.X.th).toNat 2) := alike_hi Q.mi.len (by omega) (by omega) fun d hd => by rcases hd with e | e | e | e <;> omega
 unfold markX at mi ⊢
 cases hw : gtB (R.X.ws.length : Int) 0 with
 | true =>
  rw [hw] at mi
  rw [cond_true] at mi ⊢
  refine (Q.alike A mi).quiet hR rfl (fun r => ⟨fun a => absurd a (no_hd (by exact p0.2.1) r),fun a => absurd a (no_hd (by exact p0.2.1) r)⟩) (fun r a => absurd a (no_hd (by exact p0.2.1) r)) (Lo.lock e1 e2 (show (5 : Int) ≤ 5 ∧ (5 : Int) ≤ 7 by decide) (rowsT_nd _) (fun j a => ?_) (by rw [A.1 0 (by decide) (by decide)]; exact L.st hal) (fun a => vac 5 6 a) (fun a => vac 5 7 a) (fun a => vac 5 7 a) (L.rdh hal) (L.ww e1 e2) fun w hw => ?_) (fun _ _ _ _ _ _ r a => absurd a (no_hd (by exact p0.2.1) r)) (fun _ k S hk hu hp r hr x => ?_) (fun _ a => ?_) (fun _ a => ?_)
  ·have a : j < R.X.tk.length := a
   rw [p0.2.1] at a
   cases a
  ·have hw : w ∈ R.X.ws := hw
   exact ⟨hS.wd w hw,at_mem (rowsT_in (List.mem_map_of_mem hw) (hS.wd w hw))⟩
  ·refine Q.pa k S t R hu hR hk hal hp r hr ?_
   rcases x with x | ⟨x,_⟩
   ·exact .inl x
   ·exact vac 4 2 (e2.symm.trans x)
  ·exact vac 4 2 (e2.symm.trans a)
  ·exact vac 4 2 (e2.symm.trans a)
 | false =>
  rw [hw] at mi
  rw [cond_false] at mi ⊢
  refine (Q.alike A mi).quiet hR rfl (fun r => ⟨fun a => absurd a (no_hd (by exact p0.2.1) r),fun a => absurd a (no_hd (by exact p0.2.1) r)⟩) (fun r a => absurd a (no_hd (by exact p0.2.1) r)) ?_ (fun _ _ _ _ _ _ r a => absurd a (no_hd (by exact p0.2.1) r)) (fun a => vac 2 1 a.1) (fun a => vac 2 1 a.1) (fun a => vac 2 1 a.1)
  have nt : ∀ j : Nat,j < R.X.tk.length → False := fun j hj => by rw [p0.2.1] at hj; cases hj
  exact {
   hd := fun j _ b => absurd b (nt j)
   nd := L.nd
   st := fun a => vac 2 1 a.1
   sn := fun a => vac 2 1 a
   full := fun _ _ a => absurd (show (11 : Int) ≤ 10 from a) (by decide)
   km := fun a => vac 2 1 a
   mkd := fun _ _ a => absurd (show (11 : Int) ≤ 10 from a) (by decide)
   ms := fun a => vac 2 1 a
   bg := fun a => vac 4 1 (e2.symm.trans a)
   va := fun _ a => vac 11 8 a
   rdh := fun a => vac 2 1 a.1
   ww := fun a => vac 2 1 a
   wr := fun _ _ a => absurd (show (11 : Int) ≤ 10 from a) (by decide)
   pe := fun _ _ a => by rcases a with a | a; exact vac 11 9 a; exact vac 11 10 a
   dn := fun _ _ a => by rcases a with a | a; exact vac 11 9 a; exact vac 11 10 a }
theorem sys_abort {W : List Int} (Q : Sys n W h u) (hR : u t = some R) {c : Int} {s : XM} (hf : frm R.X = 0) (h1 : R.X.life = 1) (hph : s.ph = true) (ht : s.th = R.X.th) (hk : s.tk = R.X.tk) (hr : s.rows = R.X.rows) (i : Nat) (busy : Bool) (en : Int) :
 Sys n W h (upd u t { R with X := abX c s,i := i,busy := busy,end_ := en }) := by
 have L := Q.lo t R hR
 rw [abX_t hph]
 have hd : ∀ q,Hd ({ s with life := 3,cause := c,made := 0,job := 5,part := 0,i := 0,code := 0 } : XM) q ↔ Hd R.X q := by
  intro q
  unfold Hd
  rw [hf]
  show (∃ j : Nat,frm _ ≤ j ∧ j < s.tk.length ∧ at0 s.rows (j : Int) = q) ↔ _
  rw [hk,hr]
  exact Iff.rfl
 refine Q.quiet hR ht hd (fun r _ => .inr ⟨show ¬(3 : Int) = 2 by decide,by rw [h1]; decide⟩) (Lo.back rfl rfl (by show s.rows.Nodup; rw [hr]; exact L.nd) fun j a b => ?_) (fun _ _ _ _ _ x r => ?_) (fun a => vac 3 1 a.1) (fun a => vac 3 1 a.1) (fun a => vac 3 1 a.1)
 ·have b : j < s.tk.length := b
  show (at3 s.tk (j : Int)).vl % 16 = 0 ∧ 0 ≤ (at3 s.tk (j : Int)).vl ∧ sv W (at0 s.rows (j : Int)) = (at3 s.tk (j : Int)).vl + s.th + 1 ∧ 0 ≤ at0 s.rows (j : Int) ∧ at0 s.rows (j : Int) < 3
  rw [hk] at b ⊢
  rw [hr,ht]
  exact L.hd j (by rw [hf]; exact Nat.zero_le _) b
 ·rcases x with x | x
  ·exact vac 3 1 x.1
  ·exact vac 5 4 x.1
theorem sys_l (Q : Sys n R.X.W h u) (hR : u t = some R) (hS : SB R.X) (e1 : R.X.life = 1) (e2 : R.X.job = 4) (e3 : R.X.part = 5) (p0 : marked R.X) (e6 : R.X.i < R.X.rows.length) (hb0 : R.X.bst = 0) : Sys (n + 1) (stepX R.X).W h (upd u t { R with X := stepX R.X }) := by
 have L := Q.lo t R hR
 have hal : alv R.X := ⟨e1,by rw [e2]; decide⟩
 have hf : frm R.X = 0 := frm4 e2 (by rw [e3]; decide) (by rw [e3]; decide)
 have hr := p0.2.1.at_ e6
 have hs := Q.mi.str _ hr.1 hr.2
 have e : stepX R.X = bif !ltB (at0 R.X.W (2 + at0 R.X.rows (R.X.i : Int)) % 16 - 1) (0) then abX 1 { ldX (2 + at0 R.X.rows (R.X.i : Int)) R.X with seen := at0 R.X.W (2 + at0 R.X.rows (R.X.i : Int)) } else { ldX (2 + at0 R.X.rows (R.X.i : Int)) R.X with seen := at0 R.X.W (2 + at0 R.X.rows (R.X.i : Int)),part := 6,code := 0 } := by
  unfold stepX lockX
  rw [if_neg (by rw [e2]; decide),if_neg (by rw [e2]; decide),if_pos e2,if_neg (by rw [e3]; decide),if_pos e3,if_pos e3]
 rw [e]
 cases hb : !ltB (at0 R.X.W (2 + at0 R.X.rows (R.X.i : Int)) % 16 - 1) 0 with
 | true =>
  rw [cond_true]
  have := (sys_abort Q hR (c := 1) (s := { ldX (2 + at0 R.X.rows (R.X.i : Int)) R.X with seen := at0 R.X.W (2 + at0 R.X.rows (R.X.i : Int)) }) hf e1 p0.1 rfl rfl rfl R.i R.busy R.end_).mono
  rw [abX_t (by exact p0.1)] at this ⊢
  exact this
 | false =>
  rw [cond_false]
  have hlt : ltB (at0 R.X.W (2 + at0 R.X.rows (R.X.i : Int)) % 16 - 1) 0 = true := by simpa using hb
  have hlt := of_decide_eq_true hlt
  have hd : ∀ q,Hd ({ ldX (2 + at0 R.X.rows (R.X.i : Int)) R.X with seen := at0 R.X.W (2 + at0 R.X.rows (R.X.i : Int)),part := 6,code := 0 } : XM) q ↔ Hd R.X q := by
   intro q
   unfold Hd
   rw [hf,frm4 (by exact e2) (show ¬(6 : Int) = 10 by decide) (show ¬(6 : Int) = 11 by decide)]
   exact Iff.rfl
  refine Sys.mono (Q.quiet hR rfl hd (fun r _ => .inr ⟨show ¬R.X.life = 2 by rw [e1]; decide,by rw [e1]; decide⟩) (Lo.lock e1 e2 (show (5 : Int) ≤ 6 ∧ (6 : Int) ≤ 7 by decide) L.nd (fun j a => L.hd j (by rw [hf]; exact Nat.zero_le _) a) (L.st hal) (fun _ => ?_) (fun a => vac 6 7 a) (fun a => vac 6 7 a) (L.rdh hal) (L.ww e1 e2) (L.wr e2 (by rw [e3]; decide) (by rw [e3]; decide))) (fun k S hk hu ha hp r hr => ?_) (fun _ k S hk hu hp r hr x => ?_) (fun _ a => vac 4 2 (e2.symm.trans a)) (fun _ a => vac 4 2 (e2.symm.trans a)))
  ·show at0 R.X.W (2 + at0 R.X.rows (R.X.i : Int)) % 16 = 0
   omega
  ·rcases hp with x | ⟨_,x,_⟩
   ·exact vac 6 7 x.2.2.1
   ·rcases x with x | x | x
    ·exact vac 6 8 x
    ·exact vac 6 9 x
    ·exact vac 6 10 x
  ·refine Q.pa k S t R hu hR hk hal hp r hr ?_
   rcases x with x | ⟨x,_⟩
   ·exact .inl x
   ·exact vac 4 2 (e2.symm.trans x)
end Go.Proofs.Ytmjjljngaefpaaa

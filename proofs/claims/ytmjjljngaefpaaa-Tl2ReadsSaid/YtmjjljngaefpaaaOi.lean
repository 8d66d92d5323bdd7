/- Opacity: what is decided is written and given back; what is aborted is given back. -/
import Derived.Test.YtmjjljngaefpaaaOh
namespace Go.Proofs.Ytmjjljngaefpaaa
open Go.RowKit Go.Am Go.Sy
open Go.IntKind (i64 u64)
set_option linter.unusedVariables false
variable {n : Nat} {h : Int → Int → Int} {u : US} {t : Int} {R : RM}
theorem sys_k (Q : Sys n R.X.W h u) (hR : u t = some R) (hS : SB R.X) (hn : n + 1 ≤ 1000) (e1 : R.X.life = 1) (e2 : R.X.job = 4) (e3 : R.X.part = 7) (p0 : marked R.X) (hne : R.X.ws ≠ []) (hbk : R.X.bk = 2) (hb1 : R.X.bst = 1) (hq : 0 ≤ R.X.bse ∧ R.X.bse ≤ (n : Int)) (mi : MI (n + 1) (stepX R.X).W) : ∃ h',Sys (n + 1) (stepX R.X).W h' (upd u t { R with X := stepX R.X }) := by
 have L := Q.lo t R hR
 have hal : alv R.X := ⟨e1,by rw [e2]; decide⟩
 obtain ⟨k1,k2,k3⟩ := L.km e1 e2 e3 hb1
 have e : stepX R.X = bumpX R.X := by unfold stepX; rw [if_neg (by rw [e2]; decide),if_neg (by rw [e2]; decide),if_pos e2,if_neg (by rw [e3]; decide),if_neg (by rw [e3]; decide),if_neg (by rw [e3]; decide),if_pos e3]
 have hw1 : i64.wrap (R.X.bse + 1) = R.X.bse + 1 := wrap_id (by omega) (by omega)
 have pro : ∀ k S,k ≠ t → u k = some S → alv S.X → R.X.bse < S.X.stamp → ∀ r,Hd R.X r → ¬RdS S.X r := fun k S hk hu ha hv => Q.pa t R k S hR hu (fun e => hk e.symm) ha (.inl ⟨e1,e2,e3,hb1,hv⟩)
 rw [e] at mi ⊢
 unfold bumpX at mi ⊢
 rw [if_neg (by rw [hbk]; decide),if_neg (by rw [hb1]; decide),hw1] at mi ⊢
 rw [buX_W] at mi ⊢
 cases hb : (at0 R.X.W 0 == R.X.bse) with
 | true =>
  have hw := eq_of_beq hb
  have hW : (swX 0 R.X.bse (R.X.bse + 1) R.X).W = R.X.W.set 0 (R.X.bse + 1) := by
   unfold swX
   show (bif (at0 R.X.W 0 == R.X.bse) then _ else _) = _
   rw [hb]
   rfl
  rw [hW] at mi ⊢
  obtain ⟨g1,g2,g3⟩ := set0 Q.mi.len (v := R.X.bse + 1)
  rw [cond_true]
  exact bump_sys Q hR hS hn e1 e2 e3 hne mi (R.X.bse + 1) (swX 0 R.X.bse (R.X.bse + 1) R.X) (by rw [g1]; omega) g2 g3 (by rw [g1]; exact Int.le_refl _) (fun j hj => by have := k1 j hj; omega) (by omega)
   (fun k S hk hu ha hv => pro k S hk hu ha (by omega)) ⟨e1,e2,rfl,rfl,rfl,rfl,rfl,rfl,p0.1,rfl⟩
 | false =>
  have hw : ¬at0 R.X.W 0 = R.X.bse := by simpa using hb
  have hW : (swX 0 R.X.bse (R.X.bse + 1) R.X).W = R.X.W := by
   unfold swX
   show (bif (at0 R.X.W 0 == R.X.bse) then _ else _) = _
   rw [hb]
   rfl
  rw [hW] at mi ⊢
  rw [cond_false]
  exact bump_sys Q hR hS hn e1 e2 e3 hne mi (at0 R.X.W 0) (swX 0 R.X.bse (R.X.bse + 1) R.X) (Int.le_refl _) (fun _ _ _ => rfl) (fun _ _ => rfl) (Int.le_refl _) (fun j hj => by have := k1 j hj; omega) (by omega)
   (fun k S hk hu ha hv => pro k S hk hu ha (by omega)) ⟨e1,e2,rfl,rfl,rfl,rfl,rfl,rfl,p0.1,rfl⟩
theorem sys_ch (Q : Sys n R.X.W h u) (hR : u t = some R) (hS : SB R.X) (hn : n + 1 ≤ 1000) (e1 : R.X.life = 1) (e2 : R.X.job = 4) (e3 : R.X.part = 8) (p0 : marked R.X) (hne : R.X.ws ≠ []) (e7 : R.X.i < R.X.rs.length) : ∃ h',Sys (n + 1) (stepX R.X).W h' (upd u t { R with X := stepX R.X }) := by
 have L := Q.lo t R hR
 have hf : frm R.X = 0 := frm4 e2 (by rw [e3]; decide) (by rw [e3]; decide)
 have e : stepX R.X = chX (at0 R.X.W (2 + (at3 R.X.rs (R.X.i : Int)).pl)) (ldX (2 + (at3 R.X.rs (R.X.i : Int)).pl) R.X) := by
  unfold stepX
  rw [if_neg (by rw [e2]; decide),if_neg (by rw [e2]; decide),if_pos e2,if_neg (by rw [e3]; decide),if_neg (by rw [e3]; decide),if_neg (by rw [e3]; decide),if_neg (by rw [e3]; decide),if_pos e3]
 rw [e]
 have ab : ∀ c,∃ h',Sys (n + 1) (abX c (ldX (2 + (at3 R.X.rs (R.X.i : Int)).pl) R.X)).W h' (upd u t { R with X := abX c (ldX (2 + (at3 R.X.rs (R.X.i : Int)).pl) R.X) }) := fun c => by
  rw [abX_W]
  exact ⟨h,(sys_abort Q hR (c := c) (s := ldX (2 + (at3 R.X.rs (R.X.i : Int)).pl) R.X) hf e1 p0.1 rfl rfl rfl R.i R.busy R.end_).mono⟩
 unfold chX
 cases h1 : (geB (at0 R.X.W (2 + (at3 R.X.rs (R.X.i : Int)).pl) % 16 - 1) 0 && (at0 R.X.W (2 + (at3 R.X.rs (R.X.i : Int)).pl) % 16 - 1 != (ldX (2 + (at3 R.X.rs (R.X.i : Int)).pl) R.X).th)) with
 | true => exact ab 1
 | false =>
  cases h2 : gtB (at0 R.X.W (2 + (at3 R.X.rs (R.X.i : Int)).pl) / 16) (ldX (2 + (at3 R.X.rs (R.X.i : Int)).pl) R.X).stamp with
  | true => exact ab 2
  | false =>
   rw [cond_false,cond_false]
   have h2 : ¬at0 R.X.W (2 + (at3 R.X.rs (R.X.i : Int)).pl) / 16 > R.X.stamp := of_decide_eq_false h2
   have va : ∀ x : Nat,x < R.X.i + 1 → x < R.X.rs.length → ∀ j : Nat,j < R.X.tk.length → at0 R.X.rows (j : Int) = (at3 R.X.rs (x : Int)).pl → (at3 R.X.tk (j : Int)).vl / 16 ≤ R.X.stamp := by
    intro x hx hl j hj ej
    rcases Nat.lt_or_ge x R.X.i with k | k
    ·exact L.va e2 e3 x k hl j hj ej
    ·have : x = R.X.i := by omega
     subst this
     obtain ⟨k1,k2,k3,k4,k5⟩ := L.hd j (by rw [hf]; exact Nat.zero_le _) hj
     have k3 : at0 R.X.W (2 + at0 R.X.rows (j : Int)) = (at3 R.X.tk (j : Int)).vl + R.X.th + 1 := k3
     rw [ej] at k3
     have := hS.th
     omega
   have Q1 := (quiet8 Q hR e1 e2 e3 (i := R.X.i + 1) (R.X.code) va (s := { ldX (2 + (at3 R.X.rs (R.X.i : Int)).pl) R.X with i := R.X.i + 1,part := 8 }) rfl).mono
   obtain ⟨h',this⟩ := go_sys (R := { R with X := { ldX (2 + (at3 R.X.rs (R.X.i : Int)).pl) R.X with i := R.X.i + 1,part := 8 } }) Q1 (upd_self _ _ _) ⟨hS.th,hS.c,hS.wd,hS.wn,hS.rd,hS.rn⟩ Q.mi.mono hn e1 e2 rfl hne (kI := ((R.X.i + 1 : Nat) : Int)) rfl
   rw [upd_upd] at this
   rw [goX_W]
   exact ⟨h',this⟩
theorem sys_w (Q : Sys n R.X.W h u) (hR : u t = some R) (hS : SB R.X) (e1 : R.X.life = 2) (e2 : R.X.job = 4) (e3 : R.X.part = 9) (e6 : R.X.i < R.X.ws.length) (mi : MI (n + 1) (stepX R.X).W) : Sys (n + 1) (stepX R.X).W h (upd u t { R with X := stepX R.X }) := by
 have L := Q.lo t R hR
 have hf : frm R.X = 0 := frm4 e2 (by rw [e3]; decide) (by rw [e3]; decide)
 have full := L.full e2 (by rw [e3]; decide) (by rw [e3]; decide)
 have hwr := L.wr e2 (by rw [e3]; decide) (by rw [e3]; decide)
 have hdd := at3_data hS.wd e6
 have hd34 := data_lt hdd
 have hd26 : 26 ≤ (at3 R.X.ws (R.X.i : Int)).pl := by rcases hdd with e | e | e | e <;> omega
 have held : Hd R.X (hashT (at3 R.X.ws (R.X.i : Int)).pl) := by
  obtain ⟨_,j,g1,g2⟩ := hwr (at3 R.X.ws (R.X.i : Int)) (by rw [at3_get e6]; exact List.getElem_mem _)
  exact ⟨j,by rw [hf]; exact Nat.zero_le _,by rw [full]; exact g1,g2⟩
 have hset : ∀ b : Int,0 ≤ b → b < 34 → at0 (R.X.W.set (at3 R.X.ws (R.X.i : Int)).pl.toNat (at3 R.X.ws (R.X.i : Int)).vl) b = if (at3 R.X.ws (R.X.i : Int)).pl = b then (at3 R.X.ws (R.X.i : Int)).vl else at0 R.X.W b := fun b b0 b1 => at0_set Q.mi.len hd34.1 hd34.2 b0 b1
 have e : stepX R.X = bif ltB (((R.X.i + 1 : Nat) : Int)) ((R.X.ws.length : Int)) then { stX (at3 R.X.ws (R.X.i : Int)).pl (at3 R.X.ws (R.X.i : Int)).vl R.X with i := R.X.i + 1,code := 0 } else { stX (at3 R.X.ws (R.X.i : Int)).pl (at3 R.X.ws (R.X.i : Int)).vl R.X with part := 10,i := 0,code := 0 } := by
  unfold stepX endX
  rw [if_neg (by rw [e2]; decide),if_neg (by rw [e2]; decide),if_pos e2,if_neg (by rw [e3]; decide),if_neg (by rw [e3]; decide),if_neg (by rw [e3]; decide),if_neg (by rw [e3]; decide),if_neg (by rw [e3]; decide),if_pos e3]
 have hW : (stepX R.X).W = R.X.W.set (at3 R.X.ws (R.X.i : Int)).pl.toNat (at3 R.X.ws (R.X.i : Int)).vl := by
  rw [e]
  cases ltB (((R.X.i + 1 : Nat) : Int)) ((R.X.ws.length : Int)) <;> rfl
 -- what both have in common
 have key : ∀ R' : RM,R'.X.life = 2 → R'.X.job = 4 → (R'.X.part = 9 ∧ R'.X.i = R.X.i + 1 ∨ R'.X.part = 10 ∧ R'.X.i = 0 ∧ R.X.ws.length = R.X.i + 1) → R'.X.made = R.X.made → R'.X.tk = R.X.tk → R'.X.rows = R.X.rows → R'.X.th = R.X.th → R'.X.ws = R.X.ws → Sys (n + 1) (stepX R.X).W h (upd u t R') := by
  intro R' x1 x2 x3 x4 x5 x6 x7 x8
  have hf' : frm R'.X = 0 := by
   unfold frm
   rw [if_pos x2]
   rcases x3 with k | k
   ·rw [if_neg (by omega),if_neg (by omega)]
   ·rw [if_pos k.1]; exact k.2.1
  have hd : ∀ q,Hd R'.X q ↔ Hd R.X q := by intro q; unfold Hd; rw [hf,hf',x5,x6]
  rw [hW] at mi ⊢
  refine Q.wrote hR x7 (p := (at3 R.X.ws (R.X.i : Int)).pl) (fun a a0 a1 => by rw [hset a a0 (by omega),if_neg (by omega)]) (fun d hd2 hne => by have := data_lt hd2; rw [hset d this.1 this.2,if_neg fun e => hne e.symm]) mi e1 e2 (.inl e3) held x1 x4 hd ?_
  exact {
   hd := fun j _ b => by
    rw [x5] at b ⊢
    rw [x6,x7]
    obtain ⟨k1,k2,k3,k4,k5⟩ := L.hd j (by rw [hf]; exact Nat.zero_le _) b
    exact ⟨k1,k2,by rw [show sv (R.X.W.set _ _) (at0 R.X.rows (j : Int)) = sv R.X.W (at0 R.X.rows (j : Int)) from by show at0 _ _ = at0 _ _; rw [hset _ (by omega) (by omega),if_neg (by omega)]]; exact k3,k4,k5⟩
   nd := by rw [x6]; exact L.nd
   st := fun a => by have a := a.1; rw [x1] at a; exact vac 2 1 a
   sn := fun a => by rw [x1] at a; exact vac 2 1 a
   full := fun _ _ _ => by rw [x5,x6]; exact full
   km := fun a => by rw [x1] at a; exact vac 2 1 a
   mkd := fun _ _ _ => by
    have := L.mkd e2 (by rw [e3]; decide) (by rw [e3]; decide)
    rw [hf',x5,x4,hset 0 (by decide) (by decide),if_neg (by omega)]
    rw [hf] at this
    exact this
   ms := fun a => by rw [x1] at a; exact vac 2 1 a
   bg := fun a => by rw [x2] at a; exact vac 4 1 a
   va := fun _ a => by omega
   rdh := fun a => by have a := a.1; rw [x1] at a; exact vac 2 1 a
   ww := fun a => by rw [x1] at a; exact vac 2 1 a
   wr := fun _ _ _ => by rw [x8,x6]; exact hwr
   pe := fun _ _ _ x hx hh τ hτ => by
    rw [x8] at hx hh ⊢
    rw [x4] at hτ
    have old := L.pe e1 e2 (.inl e3) x hx ((hd _).1 hh) τ hτ
    have hxd := data_lt (at3_data hS.wd hx)
    rw [old,hset _ hxd.1 hxd.2]
    by_cases ex : x = R.X.i
    ·subst ex
     rw [if_pos ⟨e3,Nat.le_refl _⟩,if_pos rfl]
     split <;> rfl
    ·have hne : ¬(at3 R.X.ws (R.X.i : Int)).pl = (at3 R.X.ws (x : Int)).pl := by
      rw [at3_get e6,at3_get hx]
      intro e9
      have g1 : R.X.i < (R.X.ws.map fun w => w.pl).length := by rw [List.length_map]; exact e6
      have g2 : x < (R.X.ws.map fun w => w.pl).length := by rw [List.length_map]; exact hx
      have g3 : (R.X.ws.map fun w => w.pl)[R.X.i] = (R.X.ws.map fun w => w.pl)[x] := by rw [List.getElem_map,List.getElem_map]; exact e9
      exact ex ((List.getElem_inj hS.wn).1 g3).symm
     rw [if_neg hne]
     rcases x3 with k | k
     ·by_cases g : R.X.i ≤ x
      ·rw [if_pos ⟨e3,g⟩,if_pos ⟨k.1,by omega⟩]
      ·rw [if_neg (fun z => g z.2),if_neg (fun z => g (by omega))]
     ·rw [if_neg (fun z => ex (by omega)),if_neg (fun z => by omega)]
   dn := fun _ _ _ d hdd2 hh hn2 τ hτ => by
    rw [x8] at hn2
    rw [x4] at hτ
    have := data_lt hdd2
    rw [hset d this.1 this.2,if_neg (by have := hn2 _ (List.getElem_mem e6); rw [at3_get e6]; exact this)]
    exact L.dn e1 e2 (.inl e3) d hdd2 ((hd _).1 hh) hn2 τ hτ }
 cases hg : ltB (((R.X.i + 1 : Nat) : Int)) ((R.X.ws.length : Int)) with
 | true =>
  have := key { R with X := stepX R.X }
  rw [e,hg] at this ⊢
  exact this e1 e2 (.inl ⟨e3,rfl⟩) rfl rfl rfl rfl rfl
 | false =>
  have hg2 := of_decide_eq_false hg
  have := key { R with X := stepX R.X }
  rw [e,hg] at this ⊢
  exact this e1 e2 (.inr ⟨rfl,rfl,by omega⟩) rfl rfl rfl rfl rfl
end Go.Proofs.Ytmjjljngaefpaaa

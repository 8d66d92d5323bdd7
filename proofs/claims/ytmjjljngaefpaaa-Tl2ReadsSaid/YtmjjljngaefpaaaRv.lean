/- Every run ends: what is left of it grows less at each pick. -/
import Derived.Test.YtmjjljngaefpaaaMk
namespace Go.Proofs.Ytmjjljngaefpaaa
open Go.RowKit Go.Am Go.Sy
open Go.IntKind (i64 u64)
set_option linter.unusedVariables false
def rkX (i : Nat) (s : XM) : Nat :=
 if s.job = 5 then 1 + (s.tk.length - s.i)
 else if s.job = 4 then (if s.part = 4 then 29 else if s.part = 5 then 20 + 2 * (3 - s.i) else if s.part = 6 then 19 + 2 * (3 - s.i) else if s.part = 7 then (if s.bst = 0 then 20 else 19) else if s.part = 8 then 15 + (3 - s.i) else if s.part = 9 then 10 + (4 - s.i) else if s.part = 10 then 6 + (3 - s.i) else 5)
 else if s.job = 2 then 30 + 3 * (5 - i) - s.part.toNat
 else 50
def rkR (R : RM) : Nat := if R.end_ ≠ 0 then 0 else if R.busy = true then rkX R.i R.X else if R.i = 0 then 50 else 30 + 3 * (5 - R.i)
variable {n : Nat} {h : Int → Int → Int} {u : US} {t : Int} {R : RM} {W : List Int} {i : Nat} {s : XM}
theorem rk_5 (h : s.job = 5) : rkX i s = 1 + (s.tk.length - s.i) := by unfold rkX; rw [if_pos h]
theorem rk_2 (h : s.job = 2) : rkX i s = 30 + 3 * (5 - i) - s.part.toNat := by unfold rkX; rw [if_neg (by rw [h]; decide),if_neg (by rw [h]; decide),if_pos h]
theorem rk_1 (h : s.job = 1) : rkX i s = 50 := by unfold rkX; rw [if_neg (by rw [h]; decide),if_neg (by rw [h]; decide),if_neg (by rw [h]; decide)]
theorem rk_4 (h : s.job = 4) {p : Int} (hp : s.part = p) : rkX i s = if p = 4 then 29 else if p = 5 then 20 + 2 * (3 - s.i) else if p = 6 then 19 + 2 * (3 - s.i) else if p = 7 then (if s.bst = 0 then 20 else 19) else if p = 8 then 15 + (3 - s.i) else if p = 9 then 10 + (4 - s.i) else if p = 10 then 6 + (3 - s.i) else 5 := by
 unfold rkX
 rw [if_neg (by rw [h]; decide),if_pos h,hp]
def Dn (k : Nat) (x : XM) : Prop := x.code = 0 → ∀ i,rkX i x ≤ k
theorem dn_bif {k : Nat} {a b : XM} {c : Bool} (h1 : Dn k a) (h2 : Dn k b) : Dn k (bif c then a else b) := by cases c <;> assumption
theorem dn_ab {k : Nat} {x : XM} (c : Int) (h : x.tk.length ≤ 3) (hk : 4 ≤ k) : Dn k (abX c x) := by
 unfold abX
 cases e : x.ph with
 | true =>
  intro _ i
  rw [rk_5 rfl]
  show 1 + (x.tk.length - 0) ≤ k
  omega
 | false => exact fun e => absurd e (show ¬(2 : Int) = 0 by decide)
theorem dn_de {k : Nat} {x : XM} (hj : x.job = 4) (hk : 14 ≤ k) : Dn k (deX x) := by
 intro _ i
 unfold deX
 cases ltB (0 : Int) (x.ws.length : Int) with
 | true =>
  rw [rk_4 (p := 9) (by exact hj) rfl]
  show 10 + (4 - 0) ≤ k
  omega
 | false =>
  rw [rk_4 (p := 11) (by exact hj) rfl]
  show 5 ≤ k
  omega
theorem dn_go {k m : Nat} {x : XM} (kI : Int) (hj : x.job = 4) (hk : 14 ≤ k) (hm : 15 + (3 - m) ≤ k) : Dn k (goX m kI x) := by
 unfold goX
 refine dn_bif (dn_bif (dn_de hj hk) fun _ i => ?_) (dn_de hj hk)
 rw [rk_4 (p := 8) (by exact hj) rfl]
 exact hm
theorem dn_bu {k : Nat} {x : XM} (v : Int) (hj : x.job = 4) (ht : x.tk.length ≤ 3) (hk : 18 ≤ k) : Dn k (buX v x) := by
 unfold buX
 exact dn_bif (dn_ab _ ht (by omega)) (dn_go _ hj (by omega) (by omega))
theorem tk3 (hm : marked s) : s.tk.length ≤ 3 := by
 have := hm.2.2.len
 have := hm.2.1.len
 omega
theorem dn_step {n : Nat} (hA : AI n s) (hj : s.job = 4 ∨ s.job = 5) : (∃ k,Dn k (stepX s) ∧ ∀ i,k < rkX i s) ∧ ∀ i,0 < rkX i s := by
 obtain ⟨hS,hK⟩ := hA
 have j4 : ∀ {j : Int},s.job = j → ¬(j = 4 ∨ j = 5) → False := fun e h => h (e ▸ hj)
 have of : ∀ {k : Nat},Dn k (stepX s) → (∀ i,k < rkX i s) → (∃ k,Dn k (stepX s) ∧ ∀ i,k < rkX i s) ∧ ∀ i,0 < rkX i s := fun a b => ⟨⟨_,a,b⟩,fun i => by have := b i; omega⟩
 cases hK with
 | no a _ => exact (j4 a (by decide)).elim
 | op _ a _ => exact (j4 a (by decide)).elim
 | b _ a => exact (j4 a (by decide)).elim
 | r0 _ a => exact (j4 a (by decide)).elim
 | r1 _ a => exact (j4 a (by decide)).elim
 | r2 _ a => exact (j4 a (by decide)).elim
 | m e1 e2 e3 p0 e7 =>
  refine of (k := 26) ?_ fun i => by rw [rk_4 e2 e3]; show 26 < 29; decide
  unfold stepX markX
  rw [if_neg (by rw [e2]; decide),if_neg (by rw [e2]; decide),if_pos e2,if_pos e3]
  refine dn_bif (fun _ i => ?_) fun _ i => ?_
  ·rw [rk_4 (p := 5) (by exact e2) rfl]
   show 20 + 2 * (3 - s.i) ≤ 26
   omega
  ·rw [rk_4 (p := 11) (by exact e2) rfl]
   show 5 ≤ 26
   decide
 | l e1 e2 e3 p0 e5 e6 e7 e8 e9 e10 e11 =>
  refine of (k := 19 + 2 * (3 - s.i)) ?_ fun i => by rw [rk_4 e2 e3]; show _ < 20 + 2 * (3 - s.i); omega
  unfold stepX lockX
  rw [if_neg (by rw [e2]; decide),if_neg (by rw [e2]; decide),if_pos e2,if_neg (by rw [e3]; decide),if_pos e3,if_pos e3]
  refine dn_bif (dn_ab _ (tk3 p0) (by omega)) fun _ i => ?_
  rw [rk_4 (p := 6) (by exact e2) rfl]
  exact Nat.le_refl _
 | t e1 e2 e3 p0 e5 e6 e7 e8 e9 e10 e11 e12 =>
  have r3 := p0.2.1.len
  refine of (k := 18 + 2 * (3 - s.i)) ?_ fun i => by rw [rk_4 e2 e3]; show _ < 19 + 2 * (3 - s.i); omega
  unfold stepX lockX
  rw [if_neg (by rw [e2]; decide),if_neg (by rw [e2]; decide),if_pos e2,if_neg (by rw [e3]; decide),if_neg (by rw [e3]; decide),if_pos e3,if_neg (by rw [e3]; decide)]
  refine dn_bif (dn_bif (fun _ i => ?_) fun _ i => ?_) (dn_ab _ (tk3 p0) (by omega))
  ·rw [rk_4 (p := 7) (by exact e2) rfl]
   show (if s.bst = 0 then 20 else 19) ≤ _
   rw [if_pos e9]
   omega
  ·rw [rk_4 (p := 5) (by exact e2) rfl]
   show 20 + 2 * (3 - (s.i + 1)) ≤ _
   omega
 | o e1 e2 e3 p0 e5 e6 p1 =>
  refine of (k := 19) ?_ fun i => by rw [rk_4 e2 e3]; show 19 < (if s.bst = 0 then 20 else 19); rw [if_pos p1.2.1]; decide
  unfold stepX bumpX
  rw [if_neg (by rw [e2]; decide),if_neg (by rw [e2]; decide),if_pos e2,if_neg (by rw [e3]; decide),if_neg (by rw [e3]; decide),if_neg (by rw [e3]; decide),if_pos e3]
  split
  ·exact dn_bu _ e2 (tk3 p0) (by decide)
  ·rw [if_pos p1.2.1]
   intro _ i
   rw [rk_4 (p := 7) (by exact e2) (by exact e3)]
   show 19 ≤ 19
   decide
 | k q e1 e2 e3 p0 e5 e6 e7 p1 e8 =>
  refine of (k := 18) ?_ fun i => by rw [rk_4 e2 e3]; show 18 < (if s.bst = 0 then 20 else 19); split <;> decide
  unfold stepX bumpX
  rw [if_neg (by rw [e2]; decide),if_neg (by rw [e2]; decide),if_pos e2,if_neg (by rw [e3]; decide),if_neg (by rw [e3]; decide),if_neg (by rw [e3]; decide),if_pos e3,if_neg (by rw [p1.1,e7]; decide),if_neg (by rw [p1.2.1]; decide)]
  exact dn_bu _ e2 (tk3 p0) (by decide)
 | ch q e1 e2 e3 p0 e5 e6 p1 e7 e8 e9 =>
  have r3 := hS.rs3
  refine of (k := 14 + (3 - s.i)) ?_ fun i => by rw [rk_4 e2 e3]; show _ < 15 + (3 - s.i); omega
  unfold stepX chX
  rw [if_neg (by rw [e2]; decide),if_neg (by rw [e2]; decide),if_pos e2,if_neg (by rw [e3]; decide),if_neg (by rw [e3]; decide),if_neg (by rw [e3]; decide),if_neg (by rw [e3]; decide),if_pos e3]
  exact dn_bif (dn_ab _ (tk3 p0) (by omega)) (dn_bif (dn_ab _ (tk3 p0) (by omega)) (dn_go _ e2 (by omega) (by show 15 + (3 - (s.i + 1)) ≤ _; omega)))
 | w e1 e2 e3 p0 e5 e6 e7 =>
  have r4 := hS.ws4
  refine of (k := 9 + (4 - s.i)) ?_ fun i => by rw [rk_4 e2 e3]; show _ < 10 + (4 - s.i); omega
  unfold stepX endX
  rw [if_neg (by rw [e2]; decide),if_neg (by rw [e2]; decide),if_pos e2,if_neg (by rw [e3]; decide),if_neg (by rw [e3]; decide),if_neg (by rw [e3]; decide),if_neg (by rw [e3]; decide),if_neg (by rw [e3]; decide),if_pos e3]
  refine dn_bif (fun _ i => ?_) fun _ i => ?_
  ·rw [rk_4 (p := 9) (by exact e2) (by exact e3)]
   show 10 + (4 - (s.i + 1)) ≤ _
   omega
  ·rw [rk_4 (p := 10) (by exact e2) rfl]
   show 6 + (3 - 0) ≤ _
   omega
 | f e1 e2 e3 p0 e5 e6 =>
  have r3 := p0.2.1.len
  refine of (k := 5 + (3 - s.i)) ?_ fun i => by rw [rk_4 e2 e3]; show _ < 6 + (3 - s.i); omega
  unfold stepX endX
  rw [if_neg (by rw [e2]; decide),if_neg (by rw [e2]; decide),if_pos e2,if_neg (by rw [e3]; decide),if_neg (by rw [e3]; decide),if_neg (by rw [e3]; decide),if_neg (by rw [e3]; decide),if_neg (by rw [e3]; decide),if_neg (by rw [e3]; decide),if_pos e3]
  intro _ i
  cases hg : geB (((s.i + 1 : Nat) : Int)) ((s.rows.length : Int)) with
  | true =>
   rw [rk_4 (p := 11) (by exact e2) rfl]
   show 5 ≤ _
   omega
  | false =>
   rw [rk_4 (p := 10) (by exact e2) rfl]
   show 6 + (3 - (s.i + 1)) ≤ _
   omega
 | e e1 e2 e3 e4 =>
  refine of (k := 0) ?_ fun i => by rw [rk_4 e2 e3]; show 0 < 5; decide
  unfold stepX endX
  rw [if_neg (by rw [e2]; decide),if_neg (by rw [e2]; decide),if_pos e2,if_neg (by rw [e3]; decide),if_neg (by rw [e3]; decide),if_neg (by rw [e3]; decide),if_neg (by rw [e3]; decide),if_neg (by rw [e3]; decide),if_neg (by rw [e3]; decide),if_neg (by rw [e3]; decide)]
  exact fun x => absurd x (show ¬(1 : Int) = 0 by decide)
 | u e1 e2 e3 p0 =>
  refine of (k := s.tk.length - s.i) ?_ fun i => by rw [rk_5 e2]; omega
  unfold stepX
  rw [if_neg (by rw [e2]; decide),if_neg (by rw [e2]; decide),if_neg (by rw [e2]; decide)]
  cases h : ltB ((s.i : Int)) ((s.tk.length : Int)) with
  | true =>
   have h := of_decide_eq_true h
   intro _ i
   rw [cond_true,rk_5 (by exact e2)]
   show 1 + (s.tk.length - (s.i + 1)) ≤ _
   omega
  | false => exact fun x => absurd x (show ¬(2 : Int) = 0 by decide)
end Go.Proofs.Ytmjjljngaefpaaa
/- Every run ends: at each pick. -/
namespace Go.Proofs.Ytmjjljngaefpaaa
open Go.RowKit Go.Am Go.Sy
open Go.IntKind (i64 u64)
set_option linter.unusedVariables false
variable {n : Nat} {h : Int → Int → Int} {u : US} {t : Int} {R : RM} {W : List Int} {i : Nat} {s : XM}
theorem ab_code2 {c : Int} {s : XM} (h : s.ph = false) : (abX c s).code = 2 := by
 unfold abX
 rw [h]
 rfl
theorem rd_goes (e1 : s.job = 2) (e2 : s.part = 0 ∨ s.part = 1 ∨ s.part = 2) (p0 : clear s) (hc : (stepX s).code = 0) : (stepX s).job = 2 ∧ (stepX s).part = s.part + 1 ∧ s.part < 2 := by
 have no : ∀ {c : Int} {x : XM},x.ph = false → (abX c x).code = 0 → False := fun h e => by rw [ab_code2 h] at e; exact absurd e (by decide)
 unfold stepX readX' at hc ⊢
 rw [if_neg (by rw [e1]; decide),if_pos e1] at hc ⊢
 rcases e2 with e | e | e
 ·rw [if_pos e] at hc ⊢
  cases hb : (freshT (at0 s.W (2 + s.row)) s.stamp != 0) with
  | true =>
   rw [hb,cond_true] at hc
   exact (no (by exact p0.1) hc).elim
  | false => exact ⟨e1,by rw [e]; rfl,by rw [e]; decide⟩
 ·rw [if_neg (by rw [e]; decide),if_pos e] at hc ⊢
  exact ⟨e1,by rw [e]; rfl,by rw [e]; decide⟩
 ·rw [if_neg (by rw [e]; decide),if_neg (by rw [e]; decide)] at hc ⊢
  cases hb : (at0 s.W (2 + s.row) != s.seen) with
  | true =>
   rw [hb,cond_true] at hc
   exact (no (by exact p0.1) hc).elim
  | false =>
   rw [hb,cond_false] at hc
   exact absurd hc (show ¬(1 : Int) = 0 by decide)
theorem rk_busy (he : R.end_ = 0) (hb : R.busy = true) : rkR R = rkX R.i R.X := by unfold rkR; rw [if_neg (by simpa using he),if_pos hb]
theorem rk_over (he : R.end_ ≠ 0) : rkR R = 0 := by unfold rkR; rw [if_pos he]
theorem rk_idle (he : R.end_ = 0) (hb : R.busy = false) : rkR R = if R.i = 0 then 50 else 30 + 3 * (5 - R.i) := by unfold rkR; rw [if_neg (by simpa using he),if_neg (by rw [hb]; decide)]
theorem rk_step (hM : MI n R.X.W) (I : RI n R) (hb : R.busy = true) (he : R.end_ = 0) (hn : n + 1 ≤ 1000) : rkR (stepR R) < rkR R := by
 rw [rk_busy he hb]
 cases I with
 | new _ a => rw [hb] at a; cases a
 | idle _ a => rw [hb] at a; cases a
 | over a _ _ => exact absurd he a
 | beg a1 a2 a3 a4 a5 a6 a7 =>
  have ec : (stepX R.X).code = 1 := by unfold stepX; rw [if_pos a5]
  have e : stepR R = { R with X := stepX R.X,busy := false,i := 1 } := by
   rw [stepR_1 ec]
   unfold doneR
   show (if 4 < R.i then _ else _) = _
   rw [if_neg (by rw [a3]; decide)]
   show ({ R with X := stepX R.X,busy := false,i := R.i + 1,rd := if 0 < R.i then _ else R.rd } : RM) = _
   rw [if_neg (by rw [a3]; decide),a3]
  rw [e,rk_idle (by exact a1) rfl,rk_1 a5]
  show 42 < 50
  decide
 | read a1 a2 a3 a4 a5 a6 a7 a8 a9 a10 =>
  obtain ⟨c1,c2⟩ := rd_clear a6 a7
  have hp := rd_part a6 a7
  have A := step_aft a6 hM (by rw [a7]; decide) (by omega)
  rw [rk_2 a7]
  rcases A.cd with k | k | k | k
  ·obtain ⟨b1,b2,b3⟩ := rd_goes a7 hp c2 k.1
   rw [stepR_0 k.1,rk_busy (by exact a1) (by exact a2)]
   show rkX R.i (stepX R.X) < _
   rw [rk_2 b1,b2]
   omega
  ·have e : stepR R = { R with X := stepX R.X,busy := false,i := R.i + 1,rd := R.rd ++ [⟨pAt R,(stepX R.X).value⟩] } := by
    rw [stepR_1 k.1]
    unfold doneR
    show (if 4 < R.i then _ else _) = _
    rw [if_neg (by omega)]
    show ({ R with X := stepX R.X,busy := false,i := R.i + 1,rd := if 0 < R.i then _ else R.rd } : RM) = _
    rw [if_pos a3]
    rfl
   rw [e,rk_idle (by exact a1) rfl]
   show (if R.i + 1 = 0 then 50 else 30 + 3 * (5 - (R.i + 1))) < _
   rw [if_neg (by omega)]
   omega
  ·rw [a7] at k; exact absurd k.2.2.2 (by decide)
  ·rw [stepR_2 k.1,rk_over (show (2 : Int) ≠ 0 by decide)]
   omega
 | com a1 a2 a3 a4 a5 =>
  have A := step_aft a4 hM (by rw [a5]; decide) (by omega)
  obtain ⟨⟨k0,d1,d2⟩,d3⟩ := dn_step a4 (.inl a5)
  rcases A.cd with k | k | k | k
  ·rw [stepR_0 k.1,rk_busy (by exact a1) (by exact a2)]
   exact Nat.lt_of_le_of_lt (d1 k.1 R.i) (d2 R.i)
  ·rw [a5] at k; exact absurd k.2.2.2.2 (by decide)
  ·have e : stepR R = { R with X := stepX R.X,busy := false,end_ := 1 } := by
    rw [stepR_1 k.1]
    unfold doneR
    show (if 4 < R.i then _ else _) = _
    rw [if_pos (by omega)]
   rw [e,rk_over (show (1 : Int) ≠ 0 by decide)]
   exact d3 R.i
  ·rw [stepR_2 k.1,rk_over (show (2 : Int) ≠ 0 by decide)]
   exact d3 R.i
 | back a1 a2 a3 a4 a5 =>
  have A := step_aft a4 hM (by rw [a5]; decide) (by omega)
  obtain ⟨⟨k0,d1,d2⟩,d3⟩ := dn_step a4 (.inr a5)
  rcases A.cd with k | k | k | k
  ·rw [stepR_0 k.1,rk_busy (by exact a1) (by exact a2)]
   exact Nat.lt_of_le_of_lt (d1 k.1 R.i) (d2 R.i)
  ·rw [a5] at k; exact absurd k.2.2.2.2 (by decide)
  ·rw [a5] at k; exact absurd k.2.2.2 (by decide)
  ·rw [stepR_2 k.1,rk_over (show (2 : Int) ≠ 0 by decide)]
   exact d3 R.i
theorem rk_ask (I : RI n R) (he : R.end_ = 0) (hp : R.mv = true → PlOk R) : rkR (askL R) ≤ rkR R := by
 have busy : R.busy = true → rkR (askL R) ≤ rkR R := by
  intro hb
  have e : askL R = R := by unfold askL; rw [if_pos hb]
  rw [e]
  exact Nat.le_refl _
 cases I with
 | beg _ a => exact busy a
 | read _ a => exact busy a
 | com _ a => exact busy a
 | back _ a => exact busy a
 | over a _ _ => exact absurd he a
 | new a1 a2 a3 a4 a5 a6 a7 =>
  have e : askL R = { R with X := beginX R.X,busy := true } := by unfold askL; rw [if_neg (by rw [a2]; decide),if_pos a3]
  rw [e,rk_idle a1 a2,if_pos a3,rk_busy (by exact a1) rfl]
  exact Nat.le_of_eq (rk_1 rfl)
 | idle a1 a2 a3 a4 a5 a6 a7 a8 =>
  rw [rk_idle a1 a2,if_neg (by omega)]
  cases hr : pRd R with
  | true =>
   have e : askL R = { R with X := readX (26 + 2 * pAt R) R.X,busy := true } := by unfold askL; rw [if_neg (by rw [a2]; decide),if_neg (by omega),if_pos hr]
   have e2 : readX (26 + 2 * pAt R) R.X = { R.X with at_ := 26 + 2 * pAt R,row := hashT (26 + 2 * pAt R),job := 2,part := 0,i := 0,code := 0 } := by
    unfold readX
    rw [show hasB R.X.ws (26 + 2 * pAt R) = false by rw [a8]; rfl]
    rfl
   rw [e,e2,rk_busy (by exact a1) rfl,rk_2 rfl]
   exact Nat.sub_le _ _
  | false =>
   cases hm : R.mv with
   | false =>
    have e : askL R = { R with X := commitX R.X,busy := true } := by unfold askL; rw [if_neg (by rw [a2]; decide),if_neg (by omega),if_neg (by rw [hr]; decide),if_neg (by rw [hm]; decide)]
    rw [e,rk_busy (by exact a1) rfl,rk_4 (p := 4) rfl rfl]
    show 29 ≤ _
    omega
   | true =>
    have e : askL R = { R with X := commitX (writeX (26 + 2 * R.g) (valT R.rd R.g R.m) (writeX (26 + 2 * R.f) (valT R.rd R.f (-R.m)) R.X)),busy := true,i := 5 } := by
     unfold askL; rw [if_neg (by rw [a2]; decide),if_neg (by omega),if_neg (by rw [hr]; decide),if_pos hm]
    rw [e,rk_busy (by exact a1) rfl,rk_4 (p := 4) rfl rfl]
    show 29 ≤ _
    omega
theorem rk_next (Q : Sys n R.X.W h u) (hR : u t = some R) (I : RI n R) (hp : R.mv = true → PlOk R) (hn : n + 1 ≤ 1000) : rkR (nextR R) ≤ rkR R - 1 := by
 unfold nextR
 by_cases he : R.end_ = 0
 ·rw [if_pos he]
  obtain ⟨q1,q2,q3,q4,q5⟩ := run_ask Q hR I he hp
  have a := rk_ask I he hp
  have b := rk_step (R := askL R) (by rw [q5]; exact Q.mi) q2 q3 q4 hn
  omega
 ·rw [if_neg he,rk_over he]
  exact Nat.zero_le _
theorem rk_end (I : RI n R) (hz : rkR R = 0) : R.end_ ≠ 0 := by
 intro he
 cases I with
 | over a _ _ => exact a he
 | new a1 a2 a3 a4 a5 a6 a7 => rw [rk_idle a1 a2,if_pos a3] at hz; cases hz
 | idle a1 a2 a3 a4 a5 a6 a7 a8 => rw [rk_idle a1 a2,if_neg (by omega)] at hz; omega
 | beg a1 a2 a3 a4 a5 a6 a7 => rw [rk_busy a1 a2,rk_1 a5] at hz; cases hz
 | read a1 a2 a3 a4 a5 a6 a7 a8 a9 a10 =>
  have := rd_part a6 a7
  rw [rk_busy a1 a2,rk_2 a7] at hz
  omega
 | com a1 a2 a3 a4 a5 =>
  have := (dn_step a4 (.inl a5)).2 R.i
  rw [rk_busy a1 a2] at hz
  omega
 | back a1 a2 a3 a4 a5 =>
  have := (dn_step a4 (.inr a5)).2 R.i
  rw [rk_busy a1 a2] at hz
  omega
end Go.Proofs.Ytmjjljngaefpaaa

/- A pick of a run: its contract is sound; what else is known of a run. -/
import Derived.Test.YtmjjljngaefpaaaNj
import Derived.Test.YtmjjljngaefpaaaTn
namespace Go.Proofs.Ytmjjljngaefpaaa
open Go.RowKit Go.Am Go.Sy
open Go.IntKind (i64 u64)
set_option linter.unusedVariables false
def P4 (s : XM) : Prop := ¬(s.job = 4 ∧ s.part = 4)
theorem p4_bif {a b : XM} {c : Bool} (h1 : P4 a) (h2 : P4 b) : P4 (bif c then a else b) := by cases c <;> assumption
theorem p4_ite {a b : XM} {c : Prop} [Decidable c] (h1 : c → P4 a) (h2 : ¬c → P4 b) : P4 (if c then a else b) := by
 split
 ·exact h1 (by assumption)
 ·exact h2 (by assumption)
theorem p4_j {s : XM} (h : s.job ≠ 4) : P4 s := fun e => h e.1
theorem p4_p {s : XM} (h : s.part ≠ 4) : P4 s := fun e => h e.2
theorem p4_ab {x : XM} (c : Int) : P4 (abX c x) := by
 unfold abX
 exact p4_bif (p4_j (show (5 : Int) ≠ 4 by decide)) (p4_j (show (0 : Int) ≠ 4 by decide))
theorem p4_de (x : XM) : P4 (deX x) := p4_p (by
 show (bif ltB 0 (x.ws.length : Int) then (9 : Int) else 11) ≠ 4
 cases ltB 0 (x.ws.length : Int) <;> decide)
theorem p4_go {x : XM} (k : Nat) (kI : Int) : P4 (goX k kI x) := by
 unfold goX
 exact p4_bif (p4_bif (p4_de _) (p4_p (show (8 : Int) ≠ 4 by decide))) (p4_de _)
theorem p4_bu {x : XM} (v : Int) : P4 (buX v x) := by unfold buX; exact p4_bif (p4_ab _) (p4_go _ _)
theorem stp44 {s : XM} (h : s.job = 1 ∨ s.job = 2 ∨ s.job = 4 ∨ s.job = 5) : P4 (stepX s) := by
 have e1 : (9 : Int) ≠ 4 := by decide
 unfold stepX
 refine p4_ite (fun _ => p4_j (show (0 : Int) ≠ 4 by decide)) fun n1 => p4_ite (fun h2 => ?_) fun n2 => p4_ite (fun h4 => ?_) fun n4 => ?_
 ·have j : ∀ {x : XM},x.job = s.job → P4 x := fun e => p4_j (by rw [e,h2]; decide)
  unfold readX'
  exact p4_ite (fun _ => p4_bif (p4_ab _) (j rfl)) fun _ => p4_ite (fun _ => j rfl) fun _ => p4_bif (p4_ab _) (p4_j (show (0 : Int) ≠ 4 by decide))
 ·refine p4_ite (fun _ => ?_) fun n4 => p4_ite (fun _ => ?_) fun n5 => p4_ite (fun h6 => ?_) fun n6 => p4_ite (fun h7 => ?_) fun n7 => p4_ite (fun h8 => ?_) fun n8 => ?_
  ·unfold markX
   exact p4_bif (p4_p (show (5 : Int) ≠ 4 by decide)) (p4_p (show (11 : Int) ≠ 4 by decide))
  ·unfold lockX
   exact p4_ite (fun _ => p4_bif (p4_ab _) (p4_p (show (6 : Int) ≠ 4 by decide))) fun _ => p4_bif (p4_bif (p4_p (show (7 : Int) ≠ 4 by decide)) (p4_p (show (5 : Int) ≠ 4 by decide))) (p4_ab _)
  ·unfold lockX
   exact p4_ite (fun _ => p4_bif (p4_ab _) (p4_p (show (6 : Int) ≠ 4 by decide))) fun _ => p4_bif (p4_bif (p4_p (show (7 : Int) ≠ 4 by decide)) (p4_p (show (5 : Int) ≠ 4 by decide))) (p4_ab _)
  ·unfold bumpX
   exact p4_ite (fun _ => p4_bu _) fun _ => p4_ite (fun _ => p4_p (show s.part ≠ 4 by rw [h7]; decide)) fun _ => p4_bu _
  ·unfold chX
   exact p4_bif (p4_ab _) (p4_bif (p4_ab _) (p4_go _ _))
  ·unfold endX
   refine p4_ite (fun h9 => p4_bif (p4_p (show s.part ≠ 4 by rw [h9]; decide)) (p4_p (show (10 : Int) ≠ 4 by decide))) fun _ => p4_ite (fun h10 => p4_p ?_) fun _ => p4_j (show (0 : Int) ≠ 4 by decide)
   show (bif geB ((s.i + 1 : Nat) : Int) (s.rows.length : Int) then (11 : Int) else 10) ≠ 4
   cases geB ((s.i + 1 : Nat) : Int) (s.rows.length : Int) <;> decide
 ·have h5 : s.job = 5 := by omega
  exact p4_bif (p4_j (show s.job ≠ 4 by rw [h5]; decide)) (p4_j (show (0 : Int) ≠ 4 by decide))
theorem busy_job {n : Nat} {R : RM} (I : RI n R) (hb : R.busy = true) (he : R.end_ = 0) : R.X.job = 1 ∨ R.X.job = 2 ∨ R.X.job = 4 ∨ R.X.job = 5 := by
 cases I with
 | over a _ _ => exact absurd he a
 | new _ a => rw [hb] at a; cases a
 | idle _ a => rw [hb] at a; cases a
 | beg _ _ _ a b => exact .inl b
 | read _ _ _ _ _ a b => exact .inr (.inl b)
 | com _ _ _ a b => exact .inr (.inr (.inl b))
 | back _ _ _ a b => exact .inr (.inr (.inr b))
theorem ex_step {n : Nat} {R : RM} (I : RI n R) (hb : R.busy = true) (he : R.end_ = 0) (hi : 0 < R.i ∧ (R.mv = true → R.i ≤ 2 ∨ R.i = 5) ∨ R.X.job = 1) : EX (stepR R) := by
 have h4 := stp44 (busy_job I hb he)
 unfold stepR doneR
 split
 ·split
  ·exact ⟨.inr (.inl rfl),fun h => absurd (show (1 : Int) = 0 from h) (by decide),fun h => absurd (show (1 : Int) = 0 from h) (by decide)⟩
  ·exact ⟨.inl he,fun _ _ h => absurd (show R.i + 1 = 0 from h) (by omega),fun _ h => by cases h⟩
 ·rename_i hc
  have hj : R.X.job ≠ 1 := fun h => hc (by unfold stepX; rw [if_pos h])
  obtain ⟨h0,h5⟩ := hi.resolve_right hj
  split
  ·exact ⟨.inr (.inr rfl),fun h => absurd (show (2 : Int) = 0 from h) (by decide),fun h => absurd (show (2 : Int) = 0 from h) (by decide)⟩
  ·exact ⟨.inl he,(fun _ h => by rw [show R.busy = false from h] at hb; cases hb),fun _ _ => ⟨h0,h5,h4⟩⟩
theorem ex_next {n : Nat} {R : RM} {h : Int → Int → Int} {u : US} {t : Int} (Q : Sys n R.X.W h u) (hR : u t = some R) (I : RI n R) (hp : R.mv = true → PlOk R) (E : EX R) : EX (nextR R) := by
 unfold nextR
 by_cases he : R.end_ = 0
 ·rw [if_pos he]
  obtain ⟨q1,q2,q3,q4,q5⟩ := run_ask Q hR I he hp
  refine ex_step q2 q3 q4 ?_
  unfold askL
  cases hb : R.busy with
  | true =>
   rw [if_pos rfl]
   obtain ⟨h0,h5,_⟩ := E.busy he hb
   exact .inl ⟨h0,h5⟩
  | false =>
   rw [if_neg (by decide)]
   by_cases h0 : R.i = 0
   ·rw [if_pos h0]
    exact .inr rfl
   ·rw [if_neg h0]
    have hpos : 0 < R.i := by omega
    cases hr : pRd R with
    | true =>
     rw [if_pos rfl]
     refine .inl ⟨hpos,fun hm => .inl ?_⟩
     have hm : R.mv = true := hm
     unfold pRd at hr
     rw [hm] at hr
     exact of_decide_eq_true hr
    | false =>
     rw [if_neg (by decide)]
     cases hm : R.mv with
     | true => rw [if_pos rfl]; exact .inl ⟨(by decide : (0 : Nat) < 5),fun _ => .inr rfl⟩
     | false => rw [if_neg (by decide)]; exact .inl ⟨hpos,fun h => by cases (show false = true from h)⟩
 ·rw [if_neg he]
  exact E
theorem rdPl_len (R : RM) (k : Nat) : (rdPl R k).length ≤ 4 := by
 unfold rdPl
 cases R.mv
 ·rw [cond_false,List.length_take]; exact Nat.min_le_right _ _
 ·rw [cond_true,List.length_take]; exact Nat.le_trans (Nat.min_le_right _ _) (show 2 ≤ 4 by decide)
theorem rd_len {R : RM} {k : Nat} (h : R.rd.map (·.pl) = rdPl R k) : R.rd.length ≤ 4 := by
 have := rdPl_len R k
 rw [← h,List.length_map] at this
 exact this
theorem nextOk (q : Nat → Bool) : CtrOk1 F.S 12 (frCtrB q nextD) := frCtrB_ok codOk q _ nextFr fun R hI h hl hlow => by
 have low := low_of hl hlow
 obtain ⟨o,rfl⟩ := hpE (i := 0) hl
 obtain ⟨⟨n,I,M⟩,pl,E⟩ := hI
 rcases E.end_ with e | e
 ·have busy : ∀ (hb : R.busy = true),R.i ≤ 5 → ((stepX R.X).code = 1 → R.i ≤ 4 → pRd R = true ∧ R.rd.length ≤ 4) → OwedN lNb R _ := fun hb h5 hk => by
   obtain ⟨h0,_,h44⟩ := E.busy e hb
   obtain ⟨ha,hj⟩ := busy_ai I hb e
   exact owed_busy o low R e hb h0 h5 ⟨⟨n,ha,M,hj⟩,h44⟩ hk
  cases I with
  | over a _ _ => exact absurd e a
  | new a1 a2 a3 a4 a5 a6 a7 => exact ⟨_,nextLOk lNnOk,owed_new o R a1 a2 a3 (E.new a1 a2 a3) a5 M.len⟩
  | beg a1 a2 a3 a4 a5 a6 a7 => exact absurd (E.busy a1 a2).1 (by omega)
  | read a1 a2 a3 a4 a5 a6 a7 a8 a9 a10 => exact ⟨_,nextLOk lNbOk,busy a2 (by omega) fun _ _ => ⟨a5,rd_len a9⟩⟩
  | com a1 a2 a3 a4 a5 => exact ⟨_,nextLOk lNbOk,busy a2 (by omega) fun _ h => by omega⟩
  | back a1 a2 a3 a4 a5 => exact ⟨_,nextLOk lNbOk,busy a2 a3 fun hc => by
   exfalso
   unfold stepX at hc
   rw [if_neg (by rw [a5]; decide),if_neg (by rw [a5]; decide),if_neg (by rw [a5]; decide)] at hc
   revert hc
   cases ltB (R.X.i : Int) (R.X.tk.length : Int)
   ·exact fun hc => absurd (show (2 : Int) = 1 from hc) (by decide)
   ·exact fun hc => absurd (show (0 : Int) = 1 from hc) (by decide)⟩
  | idle a1 a2 a3 a4 a5 a6 a7 a8 =>
   cases hr : pRd R with
   | true =>
    have hd := pAt_data pl a3 hr
    have i4 : R.i ≤ 4 := by
     unfold pRd at hr
     cases hm : R.mv with
     | true => rw [hm] at hr; have := of_decide_eq_true hr; omega
     | false => rw [hm] at hr; exact of_decide_eq_true hr
    have e2 : readX (26 + 2 * pAt R) R.X = { R.X with at_ := 26 + 2 * pAt R,row := hashT (26 + 2 * pAt R),job := 2,part := 0,i := 0,code := 0 } := by
     unfold readX
     rw [show hasB R.X.ws (26 + 2 * pAt R) = false by rw [a8]; rfl]
     rfl
    have hg : goX' (readX (26 + 2 * pAt R) R.X) := by
     have ai := read_ai (n := n) a6 hd
     rw [e2] at ai ⊢
     exact ⟨⟨n,ai,M,(show (2 : Int) ≠ 0 by decide)⟩,fun h => absurd (show (2 : Int) = 4 from h.1) (by decide)⟩
    exact ⟨_,nextLOk lNiOk,owed_read o low R a1 a2 a3 i4 hr a6 a8 hd hg (rd_len a7)⟩
   | false =>
    cases hm : R.mv with
    | false =>
     have i5 : R.i = 5 := by
      unfold pRd at hr
      rw [hm] at hr
      have := of_decide_eq_false hr
      omega
     exact ⟨_,nextLOk lNcOk,owed_end o R a1 a2 i5 hr hm a6 a8 M.len⟩
    | true =>
     have i3 : R.i = 3 := by
      unfold pRd at hr
      rw [hm] at hr
      have := of_decide_eq_false hr
      have := a5 hm
      omega
     refine ⟨_,nextLOk lNwOk,owed_write o R a1 a2 i3 hr hm a6 a8 M.len (pl hm) ?_⟩
     rw [a7,i3]
     unfold rdPl
     rw [hm]
     rfl
 ·exact ⟨_,nextLOk lXOk,owed_over o R e⟩
end Go.Proofs.Ytmjjljngaefpaaa

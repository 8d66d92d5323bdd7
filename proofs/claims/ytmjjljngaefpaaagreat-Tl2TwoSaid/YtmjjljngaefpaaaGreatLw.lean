/- Tl2Two: what holds at the law's cuts is kept from cut to cut. -/
import Derived.Test.YtmjjljngaefpaaaGreatTw
import Derived.Test.YtmjjljngaefpaaaGreatPv
namespace Go.Proofs.YtmjjljngaefpaaaGreat
open Go.RowKit Go.Am Go.Sy
open Go.IntKind (i64 u64)
set_option linter.unusedVariables false
theorem bne_absurd {p : Prop} {a : Int} (h : (a != a) = true) : p := by simp at h
theorem one_absurd {p : Prop} (h : ((1 : Int) != 0) = false) : p := absurd h (by decide)
theorem beq_absurd {p : Prop} {a : Int} (h : (a == a) = false) : p := by simp at h
theorem like_absurd {p : Prop} {a b c d : Int} {e : Bool} (h : (!(a == a && (b == b && (c == c && (d == d && (e == e && true)))))) = true) : p := by simp at h
theorem zok (s : XM) : ZOk s (stY s.part) s.i := fun _ => ⟨rfl,rfl⟩
theorem y_at {s : XM} {z : Int} {k : Nat} (h : ZOk s z k) (hj : s.job ≠ 0) : yz s z k = yv s := by
 obtain ⟨rfl,rfl⟩ := h hj
 rfl
theorem tmod4 {m x : Int} (hm : m = 4) : 0 ≤ i64.wrap ((u64.wrap x).tmod m) ∧ i64.wrap ((u64.wrap x).tmod m) < 4 := by
 subst hm
 have h0 : 0 ≤ u64.wrap x := by
  show 0 ≤ x % (2 ^ 64 : Int)
  exact Int.emod_nonneg _ (by decide)
 have h1 := Int.tmod_nonneg 4 h0
 have h2 := Int.tmod_lt_of_pos (u64.wrap x) (show (0 : Int) < 4 by decide)
 rw [wrap_id h1 (by omega)]
 exact ⟨h1,h2⟩
theorem data_is {x : Int} (h : 0 ≤ x ∧ x < 4) : isData (26 + 2 * x) := by unfold isData; omega
theorem wr1 {a : Int} (h : 0 ≤ a) (h2 : a ≤ 100) : i64.wrap (a + 1) = a + 1 := wrap_id (by omega) (by omega)
theorem eq0 {a : Int} (h : (a == 0) = true) : a = 0 := by simpa using h
theorem ne0 {a : Int} (h : (a == 0) = false) : a ≠ 0 := by simpa using h
theorem msr0 {i n : Nat} (h : i < n) (hn : n ≤ 150) : (200 - i) * 3 - 1 < (200 - i) * 3 := by omega
theorem msr1 {i n : Nat} (h : i < n) (hn : n ≤ 150) : (200 - i) * 3 - 2 < (200 - i) * 3 - 1 := by omega
theorem msr2 {i n : Nat} (h : i < n) (hn : n ≤ 150) : (200 - (i + 1)) * 3 < (200 - i) * 3 - 2 := by omega
variable {i nS nO : Nat} {S O : XM} {z zo aS bS aO bO : Int} {k ko : Nat}
theorem pl_beg (h : PlOk false nS aS bS S) (hb : (bS == 0) = true) (ha : (aS == 0) = true) : noX S := by
 have hb := eq0 hb
 have ha := eq0 ha
 rcases h with h | h | h | h
 ·exact h.2.2
 ·omega
 ·exact absurd h.1 (by decide)
 ·omega
theorem pl_op (h : PlOk false nS aS bS S) (hb : (bS == 0) = true) (ha : (aS == 0) = false) : 1 ≤ aS ∧ aS ≤ (nS : Int) + 1 ∧ S.life = 1 ∧ S.job = 0 ∧ clear S := by
 have hb := eq0 hb
 have ha := ne0 ha
 rcases h with h | h | h | h
 ·omega
 ·exact h.2
 ·exact absurd h.1 (by decide)
 ·omega
theorem pl_at (h : PlOk false nS aS bS S) (hb : (bS == 0) = false) : bS = 1 ∧ 1 ≤ aS ∧ aS ≤ (nS : Int) + 2 ∧ S.job ≠ 0 ∧ (S.job = 1 ∨ S.job = 2 → aS ≤ (nS : Int) + 1) ∧ (S.job = 4 → aS = (nS : Int) + 2) := by
 have hb := ne0 hb
 rcases h with h | h | h | h
 ·exact absurd h.1 hb
 ·exact absurd h.1 hb
 ·exact absurd h.1 (by decide)
 ·exact h
theorem li_op (h : LI false i nS nO ⟨i,S,z,k,O,zo,ko,aS,bS,aO,bO⟩) (hb : (bS == 0) = true) (ha : (aS == 0) = false) : opX S := by
 have := pl_op h.pS hb ha
 exact ⟨h.S.sb,this.2.2⟩
theorem li_at (h : LI false i nS nO ⟨i,S,z,k,O,zo,ko,aS,bS,aO,bO⟩) (hb : (bS == 0) = false) : atX S := ⟨i,h.S,h.W,(pl_at h.pS hb).2.2.2.1⟩
theorem li_yv (h : LI false i nS nO ⟨i,S,z,k,O,zo,ko,aS,bS,aO,bO⟩) (hb : (bS == 0) = false) : yz S z k = yv S := y_at h.zS (pl_at h.pS hb).2.2.2.1
theorem li_beg (h : LI false i nS nO ⟨i,S,z,k,O,zo,ko,aS,bS,aO,bO⟩) (hb : (bS == 0) = true) (ha : (aS == 0) = true) : LI true (i + 1) nS nO ⟨i,beginX S,stY (beginX S).part,(beginX S).i,O,zo,ko,i64.wrap (aS + 1),1,aO,bO⟩ := by
 have e := eq0 ha
 subst e
 rw [wr1 (by decide) (by decide)]
 refine ⟨beg_ai h.S.sb,h.O.mono,h.W.mono,zok _,h.zO,.inr (.inr (.inr ⟨rfl,(show (1 : Int) ≤ 0 + 1 by decide),(show (0 : Int) + 1 ≤ (nS : Int) + 2 by omega),(show ¬(1 : Int) = 0 by decide),fun _ => (show (0 : Int) + 1 ≤ (nS : Int) + 1 by omega),fun h => absurd (show (1 : Int) = 4 from h) (by decide)⟩)),h.pO⟩
theorem li_com (h : LI false i nS nO ⟨i,S,z,k,O,zo,ko,aS,bS,aO,bO⟩) (hb : (bS == 0) = true) (ha : (aS == 0) = false) (hg : decide (aS > (nS : Int)) = true) (hn : nS ≤ 8) : LI true (i + 1) nS nO ⟨i,commitX S,stY (commitX S).part,(commitX S).i,O,zo,ko,i64.wrap (aS + 1),1,aO,bO⟩ := by
 have hp : 1 ≤ aS ∧ aS ≤ (nS : Int) + 1 ∧ S.life = 1 ∧ S.job = 0 ∧ clear S := pl_op h.pS hb ha
 have hg := qb hg
 have e : i64.wrap (aS + 1) = (nS : Int) + 2 := by rw [wr1 (by omega) (by omega)]; omega
 rw [e]
 exact ⟨com_ai (li_op h hb ha),h.O.mono,h.W.mono,zok _,h.zO,.inr (.inr (.inr ⟨rfl,(show (1 : Int) ≤ (nS : Int) + 2 by omega),Int.le_refl _,(show ¬(4 : Int) = 0 by decide),fun h => absurd (show (4 : Int) = 1 ∨ (4 : Int) = 2 from h) (by decide),fun _ => rfl⟩)),h.pO⟩
theorem li_read {p : Int} {u : Bool} (hp : isData p) (h : LI false i nS nO ⟨i,S,z,k,O,zo,ko,aS,bS,aO,bO⟩) (hb : (bS == 0) = true) (ha : (aS == 0) = false) (hg : decide (aS > (nS : Int)) = false) (hn : nS ≤ 8) (hc : ((readX p S).code != 0) = u) :
 LI true (i + 1) nS nO ⟨i,readX p S,0,0,O,zo,ko,i64.wrap (aS + 1),bif u then 0 else 1,aO,bO⟩ := by
 have ho : 1 ≤ aS ∧ aS ≤ (nS : Int) + 1 ∧ S.life = 1 ∧ S.job = 0 ∧ clear S := pl_op h.pS hb ha
 have hg := qc hg
 have e : i64.wrap (aS + 1) = aS + 1 := wr1 (by omega) (by omega)
 rw [e]
 refine ⟨read_ai (li_op h hb ha) hp,h.O.mono, ?_, ?_,h.zO, ?_,h.pO⟩
 ·show MI (i + 1) (readX p S).W
  unfold readX
  cases hasB S.ws p <;> exact h.W.mono
 ·show ZOk (readX p S) 0 0
  unfold readX
  cases hasB S.ws p with
  | true => exact fun hj => absurd ho.2.2.2.1 hj
  | false => exact fun _ => ⟨rfl,rfl⟩
 ·show PlOk true nS (aS + 1) (bif u then 0 else 1) (readX p S)
  unfold readX at hc ⊢
  cases hh : hasB S.ws p with
  | true =>
   rw [hh] at hc
   have hc : true = u := hc
   subst hc
   exact .inr (.inl ⟨rfl,by omega,by omega,ho.2.2⟩)
  | false =>
   rw [hh] at hc
   have hc : false = u := hc
   subst hc
   exact .inr (.inr (.inr ⟨rfl,by omega,by omega,(show ¬(2 : Int) = 0 by decide),fun _ => by omega,fun h => absurd (show (2 : Int) = 4 from h) (by decide)⟩))
theorem li_write {p v : Int} (hp : isData p) (h : LI false i nS nO ⟨i,S,z,k,O,zo,ko,aS,bS,aO,bO⟩) (hb : (bS == 0) = true) (ha : (aS == 0) = false) (hg : decide (aS > (nS : Int)) = false) (hn : nS ≤ 8) :
 LI true (i + 1) nS nO ⟨i,writeX p v S,z,k,O,zo,ko,i64.wrap (aS + 1),0,aO,bO⟩ := by
 have ho : 1 ≤ aS ∧ aS ≤ (nS : Int) + 1 ∧ S.life = 1 ∧ S.job = 0 ∧ clear S := pl_op h.pS hb ha
 have hg := qc hg
 have e : i64.wrap (aS + 1) = aS + 1 := wr1 (by omega) (by omega)
 rw [e]
 exact ⟨write_ai (li_op h hb ha) hp,h.O.mono,h.W.mono,fun hj => absurd ho.2.2.2.1 hj,h.zO,.inr (.inl ⟨rfl,(show 1 ≤ aS + 1 by omega),(show aS + 1 ≤ (nS : Int) + 1 by omega),ho.2.2⟩),h.pO⟩
theorem li_step {u v : Bool} (h : LI false i nS nO ⟨i,S,z,k,O,zo,ko,aS,bS,aO,bO⟩) (hb : (bS == 0) = false) (hn : i ≤ 1000) (hu : ((stepX S).code != 0) = u) (hv : ((stepX S).code == 2) = v) :
 LI true (i + 1) nS nO ⟨i,stepX S,stY (stepX S).part,(stepX S).i,O,zo,ko,bif v then 0 else aS,bif u then 0 else bS,aO,bO⟩ := by
 obtain ⟨p1,p2,p3,p4,p5,p6⟩ := pl_at h.pS hb
 have hA := step_aft h.S h.W p4 hn
 refine ⟨hA.ai,h.O.mono,hA.mi,zok _,h.zO, ?_,h.pO⟩
 show PlOk true nS (bif v then 0 else aS) (bif u then 0 else bS) (stepX S)
 rcases hA.cd with ⟨c1,c2,c3⟩ | ⟨c1,c2,c3,c4,c5⟩ | ⟨c1,c2,c3,c4⟩ | ⟨c1,c2⟩
 ·rw [c1] at hu hv
  have hu : false = u := hu
  have hv : false = v := hv
  subst hu
  subst hv
  refine .inr (.inr (.inr ⟨p1,p2,p3,c2,fun h2 => ?_,fun h2 => ?_⟩))
  ·have h2 : (stepX S).job = 1 ∨ (stepX S).job = 2 := h2
   rcases c3 with e | e
   ·rw [e] at h2; exact p5 h2
   ·rw [e] at h2; exact absurd h2 (by decide)
  ·have h2 : (stepX S).job = 4 := h2
   rcases c3 with e | e
   ·rw [e] at h2; exact p6 h2
   ·rw [e] at h2; exact absurd h2 (by decide)
 ·rw [c1] at hu hv
  have hu : true = u := hu
  have hv : false = v := hv
  subst hu
  subst hv
  exact .inr (.inl ⟨rfl,p2,p5 c5,c3,c2,c4⟩)
 ·rw [c1] at hu hv
  have hu : true = u := hu
  have hv : false = v := hv
  subst hu
  subst hv
  exact .inr (.inr (.inl ⟨rfl,rfl,p6 c4,c2,.inr (.inl c3)⟩))
 ·rw [c1] at hu hv
  have hu : true = u := hu
  have hv : true = v := hv
  subst hu
  subst hv
  exact .inl ⟨rfl,rfl,c2⟩
theorem li_end {u : Bool} (h : LI true (i + 1) nS nO ⟨i,S,z,k,O,zo,ko,aS,bS,aO,bO⟩) (hn : nS ≤ 8) (hu : (decide (aS > i64.wrap ((nS : Int) + 1)) && (bS == 0)) = u) :
 LI false (i + 1) nS nO ⟨i + 1,S,z,k,O,zo,ko,bif u then 0 else aS,bS,aO,bO⟩ := by
 refine ⟨h.S,h.O,h.W,h.zS,h.zO, ?_,h.pO⟩
 rw [wrap_id (by omega) (by omega)] at hu
 rcases h.pS with ⟨h1,h2,h3⟩ | ⟨h1,h2,h3,h4⟩ | ⟨h0,h1,h2,h3⟩ | ⟨h1,h2,h3,h4⟩
 ·have h1 : bS = 0 := h1
  have h2 : aS = 0 := h2
  subst h1
  subst h2
  refine .inl ⟨rfl, ?_,h3⟩
  cases u <;> rfl
 ·have h3 : aS ≤ (nS : Int) + 1 := h3
  have : u = false := by rw [← hu,decide_eq_false (by omega)]; rfl
  subst this
  exact .inr (.inl ⟨h1,h2,h3,h4⟩)
 ·have h1 : bS = 0 := h1
  have h2 : aS = (nS : Int) + 2 := h2
  have : u = true := by rw [← hu,decide_eq_true (by omega),h1]; rfl
  subst this
  exact .inl ⟨h1,rfl,h3⟩
 ·have h1 : bS = 1 := h1
  have : u = false := by rw [← hu,h1]; exact Bool.and_false _
  subst this
  exact .inr (.inr (.inr ⟨h1,h2,h3,h4⟩))
theorem li_end0 (h : LI true (i + 1) nS nO ⟨i,S,z,k,O,zo,ko,aS,bS,aO,bO⟩) (hn : nS ≤ 8) (hu : decide (aS > i64.wrap ((nS : Int) + 1)) = false) : LI false (i + 1) nS nO ⟨i + 1,S,z,k,O,zo,ko,aS,bS,aO,bO⟩ := li_end (u := false) h hn (by rw [hu]; rfl)
theorem li_end1 (h : LI true (i + 1) nS nO ⟨i,S,z,k,O,zo,ko,aS,bS,aO,bO⟩) (hn : nS ≤ 8) (hu : decide (aS > i64.wrap ((nS : Int) + 1)) = true) (hb : (bS == 0) = true) : LI false (i + 1) nS nO ⟨i + 1,S,z,k,O,zo,ko,0,bS,aO,bO⟩ := li_end (u := true) h hn (by rw [hu,hb]; rfl)
theorem li_end2 (h : LI true (i + 1) nS nO ⟨i,S,z,k,O,zo,ko,aS,bS,aO,bO⟩) (hn : nS ≤ 8) (hu : decide (aS > i64.wrap ((nS : Int) + 1)) = true) (hb : (bS == 0) = false) : LI false (i + 1) nS nO ⟨i + 1,S,z,k,O,zo,ko,aS,bS,aO,bO⟩ := li_end (u := false) h hn (by rw [hu,hb]; rfl)
theorem lt_big {i n : Nat} (h : i < n) (hn : n ≤ 150) : i < 100000000 := by omega
theorem le_th {i n : Nat} (h : i < n) (hn : n ≤ 150) : i ≤ 1000 := by omega
theorem li_swap {n : Nat} (h : LI false i nS nO ⟨n,S,z,k,O,zo,ko,aS,bS,aO,bO⟩) : LI false i nO nS ⟨n,memX O S,zo,ko,S,z,k,aO,bO,aS,bS⟩ := ⟨h.O.mem _,h.S,h.W,h.zO,h.zS,h.pO,h.pS⟩
theorem w0_mi : MI 0 W0 := by
 refine ⟨rfl,⟨by decide,by decide⟩,fun r h0 h1 => ?_⟩
 rcases three h0 h1 with rfl | rfl | rfl <;> exact ⟨by decide,by decide⟩
def newX (t c : Int) : XM := ⟨0,t,c,0,0,0,0,0,0,0,0,0,0,0,0,0,0,0,0,false,[],[],0,[],[],W0,0,0,0,0,0,false,0,0,0,0⟩
theorem new_ai {t c : Int} (ht : t = 0 ∨ t = 2) (hc : c = 1 ∨ c = 2) : AI 0 (newX t c) := ⟨⟨ht,hc,fun w hw => absurd hw qs,List.nodup_nil,fun w hw => absurd hw qs,List.nodup_nil⟩,.no rfl (.inl rfl)⟩
theorem li_ix (h : LI false i nS nO ⟨i,S,z,k,O,zo,ko,aS,bS,aO,bO⟩) (hb : (bS == 0) = true) (ha : (aS == 0) = false) (hg : decide (aS > (nS : Int)) = false) (hn : nS ≤ 8) : 0 ≤ i64.wrap (aS - 1) ∧ i64.wrap (aS - 1) < (nS : Int) := by
 have ho : 1 ≤ aS ∧ aS ≤ (nS : Int) + 1 ∧ S.life = 1 ∧ S.job = 0 ∧ clear S := pl_op h.pS hb ha
 have hg := qc hg
 rw [wrap_id (by omega) (by omega)]
 omega
theorem clk12 (cl : Int) : i64.wrap (1 + i64.wrap ((u64.wrap cl).tmod 2)) = 1 ∨ i64.wrap (1 + i64.wrap ((u64.wrap cl).tmod 2)) = 2 := by
 have h0 : 0 ≤ u64.wrap cl := by
  show 0 ≤ cl % (2 ^ 64 : Int)
  exact Int.emod_nonneg _ (by decide)
 have h1 := Int.tmod_nonneg 2 h0
 have h2 := Int.tmod_lt_of_pos (u64.wrap cl) (show (0 : Int) < 2 by decide)
 rw [wrap_id h1 (by omega),wrap_id (by omega) (by omega)]
 omega
theorem li_new {c : Int} (hc : c = 1 ∨ c = 2) : LI false 0 nS nO ⟨0,newX 0 c,0,0,newX 2 c,0,0,0,0,0,0⟩ := ⟨new_ai (.inl rfl) hc,new_ai (.inr rfl) hc,w0_mi,fun h => absurd rfl h,fun h => absurd rfl h,.inl ⟨rfl,rfl,rfl,.inl rfl⟩,.inl ⟨rfl,rfl,rfl,.inl rfl⟩⟩
end Go.Proofs.YtmjjljngaefpaaaGreat

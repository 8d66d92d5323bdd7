/- The threads' marks: whose phase is told. -/
import Derived.Test.YtmjjljngaefpaaaRn
namespace Go.Proofs.Ytmjjljngaefpaaa
open Go.RowKit Go.Am Go.Sy
open Go.IntKind (i64 u64)
set_option linter.unusedVariables false
def Lw (W W' : List Int) : Prop := ∀ t : Int,0 ≤ t → t < 3 → at0 W' (11 + 2 * t) = at0 W (11 + 2 * t)
theorem Lw.refl (W : List Int) : Lw W W := fun _ _ _ => rfl
theorem lw_set {W : List Int} (hW : W.length = 34) {a v : Int} (h : (0 ≤ a ∧ a < 5) ∨ isData a) : Lw W (W.set a.toNat v) := by
 intro t h0 h1
 have ha : 0 ≤ a ∧ a < 34 ∧ a ≠ 11 + 2 * t := by
  rcases h with h | h | h | h | h <;> omega
 rw [at0_set hW ha.1 ha.2.1 (by omega) (by omega),if_neg ha.2.2]
theorem lw_if {W : List Int} (hW : W.length = 34) {a v : Int} {c : Bool} (h : (0 ≤ a ∧ a < 5) ∨ isData a) : Lw W (bif c then W.set a.toNat v else W) := by
 cases c
 ·exact Lw.refl W
 ·exact lw_set hW h
def Ms (s x : XM) : Prop := Lw s.W x.W ∧ x.ph = s.ph ∧ (x.job = 0 → x.ph = false)
theorem ms_bif {s a b : XM} {c : Bool} (h1 : Ms s a) (h2 : Ms s b) : Ms s (bif c then a else b) := by cases c <;> assumption
theorem ms_ab {s x : XM} (c : Int) (h : Lw s.W x.W) (hp : x.ph = s.ph) : Ms s (abX c x) := by
 unfold abX
 cases e : x.ph with
 | true => exact ⟨h,by rw [← hp]; exact e.symm ▸ rfl,fun e => absurd e (show (5 : Int) ≠ 0 by decide)⟩
 | false => exact ⟨h,by rw [← hp]; exact e.symm ▸ rfl,fun _ => by first | exact e | rfl⟩
theorem ms_de {s x : XM} (h : Lw s.W x.W) (hp : x.ph = s.ph) (hj : x.job ≠ 0) : Ms s (deX x) := ⟨h,hp,fun e => absurd e hj⟩
theorem ms_go {s x : XM} (k : Nat) (kI : Int) (h : Lw s.W x.W) (hp : x.ph = s.ph) (hj : x.job ≠ 0) : Ms s (goX k kI x) := by
 unfold goX
 exact ms_bif (ms_bif (ms_de h hp hj) ⟨h,hp,fun e => absurd e hj⟩) (ms_de h hp hj)
theorem ms_bu {s x : XM} (v : Int) (h : Lw s.W x.W) (hp : x.ph = s.ph) (hj : x.job ≠ 0) : Ms s (buX v x) := by
 unfold buX
 exact ms_bif (ms_ab _ h hp) (ms_go _ _ h hp hj)
def Mk (s x : XM) : Prop := (∀ t : Int,0 ≤ t → t < 3 → t ≠ s.th → at0 x.W (11 + 2 * t) = at0 s.W (11 + 2 * t)) ∧ (x.ph = true ∨ at0 x.W (11 + 2 * s.th) = 0) ∧ (x.job = 0 → x.ph = false)
theorem mk_of {s x : XM} (ht : 0 ≤ s.th ∧ s.th < 3) (hm : s.ph = true ∨ at0 s.W (11 + 2 * s.th) = 0) (h : Ms s x) : Mk s x :=
 ⟨fun t a b _ => h.1 t a b,by rw [h.2.1,h.1 s.th ht.1 ht.2]; exact hm,h.2.2⟩
theorem mk_set {s x : XM} {v : Int} (hW : s.W.length = 34) (ht : 0 ≤ s.th ∧ s.th < 3) (e : x.W = s.W.set (11 + 2 * s.th).toNat v) : (∀ t : Int,0 ≤ t → t < 3 → t ≠ s.th → at0 x.W (11 + 2 * t) = at0 s.W (11 + 2 * t)) ∧ at0 x.W (11 + 2 * s.th) = v := by
 rw [e]
 exact ⟨fun t a b c => by rw [at0_set hW (by omega) (by omega) (by omega) (by omega),if_neg (by omega)],by rw [at0_set hW (by omega) (by omega) (by omega) (by omega),if_pos rfl]⟩
theorem step_mk {n : Nat} {s : XM} (hA : AI n s) (hM : MI n s.W) (hj : s.job ≠ 0) (hm : s.ph = true ∨ at0 s.W (11 + 2 * s.th) = 0) : Mk s (stepX s) := by
 obtain ⟨hS,hK⟩ := hA
 have ht := hS.th
 have hl := hM.len
 cases hK with
 | no a b => exact absurd a hj
 | op a b c => exact absurd b hj
 | b e1 e2 e3 p0 =>
  refine mk_of ht hm ?_
  unfold stepX
  rw [if_pos e2]
  exact ⟨Lw.refl _,rfl,fun _ => p0.1⟩
 | r0 e1 e2 e3 p0 e7 e8 =>
  refine mk_of ht hm ?_
  unfold stepX readX'
  rw [if_neg (by rw [e2]; decide),if_pos e2,if_pos e3]
  exact ms_bif (ms_ab _ (Lw.refl _) rfl) ⟨Lw.refl _,rfl,fun e => absurd e hj⟩
 | r1 e1 e2 e3 p0 e7 e8 =>
  refine mk_of ht hm ?_
  unfold stepX readX'
  rw [if_neg (by rw [e2]; decide),if_pos e2,if_neg (by rw [e3]; decide),if_pos e3]
  exact ⟨Lw.refl _,rfl,fun e => absurd e hj⟩
 | r2 e1 e2 e3 p0 e7 e8 =>
  refine mk_of ht hm ?_
  unfold stepX readX'
  rw [if_neg (by rw [e2]; decide),if_pos e2,if_neg (by rw [e3]; decide),if_neg (by rw [e3]; decide)]
  exact ms_bif (ms_ab _ (Lw.refl _) rfl) ⟨Lw.refl _,rfl,fun _ => p0.1⟩
 | m e1 e2 e3 p0 e7 =>
  unfold stepX markX
  rw [if_neg (by rw [e2]; decide),if_neg (by rw [e2]; decide),if_pos e2,if_pos e3]
  cases gtB (s.ws.length : Int) 0 with
  | true => exact ⟨(mk_set hl ht rfl).1,.inl rfl,fun e => absurd e hj⟩
  | false => exact ⟨(mk_set hl ht rfl).1,.inl rfl,fun e => absurd e hj⟩
 | l e1 e2 e3 p0 e5 e6 e7 e8 e9 e10 e11 =>
  refine mk_of ht hm ?_
  unfold stepX lockX
  rw [if_neg (by rw [e2]; decide),if_neg (by rw [e2]; decide),if_pos e2,if_neg (by rw [e3]; decide),if_pos e3,if_pos e3]
  exact ms_bif (ms_ab _ (Lw.refl _) rfl) ⟨Lw.refl _,rfl,fun e => absurd e hj⟩
 | t e1 e2 e3 p0 e5 e6 e7 e8 e9 e10 e11 e12 =>
  refine mk_of ht hm ?_
  unfold stepX lockX
  rw [if_neg (by rw [e2]; decide),if_neg (by rw [e2]; decide),if_pos e2,if_neg (by rw [e3]; decide),if_neg (by rw [e3]; decide),if_pos e3,if_neg (by rw [e3]; decide)]
  have hr := p0.2.1.at_ e6
  have hw : Lw s.W (swX (2 + at0 s.rows (s.i : Int)) s.seen (s.seen - s.seen % 16 + s.th + 1) s).W := lw_if hl (.inl (by omega))
  exact ms_bif (ms_bif ⟨hw,rfl,fun e => absurd e hj⟩ ⟨hw,rfl,fun e => absurd e hj⟩) (ms_ab _ hw rfl)
 | o e1 e2 e3 p0 e5 e6 p1 =>
  refine mk_of ht hm ?_
  unfold stepX bumpX
  rw [if_neg (by rw [e2]; decide),if_neg (by rw [e2]; decide),if_pos e2,if_neg (by rw [e3]; decide),if_neg (by rw [e3]; decide),if_neg (by rw [e3]; decide),if_pos e3]
  split
  ·exact ms_bu _ (lw_set (a := 0) hl (.inl (by decide))) rfl hj
  ·rw [if_pos p1.2.1]
   exact ⟨Lw.refl _,rfl,fun e => absurd e hj⟩
 | k q e1 e2 e3 p0 e5 e6 e7 p1 e8 =>
  refine mk_of ht hm ?_
  unfold stepX bumpX
  rw [if_neg (by rw [e2]; decide),if_neg (by rw [e2]; decide),if_pos e2,if_neg (by rw [e3]; decide),if_neg (by rw [e3]; decide),if_neg (by rw [e3]; decide),if_pos e3,if_neg (by rw [p1.1,e7]; decide),if_neg (by rw [p1.2.1]; decide)]
  exact ms_bu _ (lw_if (a := 0) hl (.inl (by decide))) rfl hj
 | ch q e1 e2 e3 p0 e5 e6 p1 e7 e8 e9 =>
  refine mk_of ht hm ?_
  unfold stepX chX
  rw [if_neg (by rw [e2]; decide),if_neg (by rw [e2]; decide),if_pos e2,if_neg (by rw [e3]; decide),if_neg (by rw [e3]; decide),if_neg (by rw [e3]; decide),if_neg (by rw [e3]; decide),if_pos e3]
  exact ms_bif (ms_ab _ (Lw.refl _) rfl) (ms_bif (ms_ab _ (Lw.refl _) rfl) (ms_go _ _ (Lw.refl _) rfl hj))
 | w e1 e2 e3 p0 e5 e6 e7 =>
  refine mk_of ht hm ?_
  unfold stepX endX
  rw [if_neg (by rw [e2]; decide),if_neg (by rw [e2]; decide),if_pos e2,if_neg (by rw [e3]; decide),if_neg (by rw [e3]; decide),if_neg (by rw [e3]; decide),if_neg (by rw [e3]; decide),if_neg (by rw [e3]; decide),if_pos e3]
  have hw := lw_set (v := (at3 s.ws (s.i : Int)).vl) hl (.inr (at3_data hS.wd e6))
  exact ms_bif ⟨hw,rfl,fun e => absurd e hj⟩ ⟨hw,rfl,fun e => absurd e hj⟩
 | f e1 e2 e3 p0 e5 e6 =>
  refine mk_of ht hm ?_
  unfold stepX endX
  rw [if_neg (by rw [e2]; decide),if_neg (by rw [e2]; decide),if_pos e2,if_neg (by rw [e3]; decide),if_neg (by rw [e3]; decide),if_neg (by rw [e3]; decide),if_neg (by rw [e3]; decide),if_neg (by rw [e3]; decide),if_neg (by rw [e3]; decide),if_pos e3]
  have hr := p0.2.1.at_ e5
  exact ⟨lw_set hl (.inl (by omega)),rfl,fun e => absurd e hj⟩
 | e e1 e2 e3 e4 =>
  unfold stepX endX
  rw [if_neg (by rw [e2]; decide),if_neg (by rw [e2]; decide),if_pos e2,if_neg (by rw [e3]; decide),if_neg (by rw [e3]; decide),if_neg (by rw [e3]; decide),if_neg (by rw [e3]; decide),if_neg (by rw [e3]; decide),if_neg (by rw [e3]; decide),if_neg (by rw [e3]; decide)]
  exact ⟨(mk_set hl ht rfl).1,.inr (mk_set hl ht rfl).2,fun _ => rfl⟩
 | u e1 e2 e3 p0 =>
  unfold stepX
  rw [if_neg (by rw [e2]; decide),if_neg (by rw [e2]; decide),if_neg (by rw [e2]; decide)]
  cases h : ltB ((s.i : Int)) ((s.tk.length : Int)) with
  | true =>
   have h := of_decide_eq_true h
   have h : s.i < s.tk.length := by omega
   have hk := p0.2.2.at_ s.i h
   have hr := p0.2.1.at_ (i := s.i) (by have := p0.2.2.len; omega)
   exact mk_of ht hm ⟨lw_set hl (.inl (by rw [hk.1]; omega)),rfl,fun e => absurd e hj⟩
  | false => exact ⟨(mk_set hl ht rfl).1,.inr (mk_set hl ht rfl).2,fun _ => rfl⟩
end Go.Proofs.Ytmjjljngaefpaaa

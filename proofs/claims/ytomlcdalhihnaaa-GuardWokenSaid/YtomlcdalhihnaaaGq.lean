/- Plain facts on queues that the walks stand on. Printed by gen_gq.py. -/
import Derived.Test.YtomlcdalhihnaaaGw
namespace Go.Proofs.Ytomlcdalhihnaaa
open Go.RowKit Go.Am Go.Sy
set_option linter.unusedVariables false
set_option linter.unusedSimpArgs false

theorem succ64 {n : Nat} (h : n ≤ 1000000) : IntKind.i64.wrap ((n : Int) + 1) = ((n + 1 : Nat) : Int) := by
  simp only [IntKind.wrap, IntKind.signed, IntKind.bits]
  simp
  omega
theorem wrap_id {n : Int} (h : -1000000 ≤ n) (h' : n ≤ 1000000) : IntKind.i64.wrap n = n := by
  simp only [IntKind.wrap, IntKind.signed, IntKind.bits]
  simp
  omega
theorem tmod_is (x : Int) {n : Int} (h0 : 0 < n) (h1 : n ≤ 1000) : 0 ≤ (IntKind.u64.wrap x).tmod n ∧ (IntKind.u64.wrap x).tmod n < n := by
  have h2 : 0 ≤ IntKind.u64.wrap x := by simp [IntKind.wrap, IntKind.signed, IntKind.bits]; omega
  exact ⟨Int.tmod_nonneg n h2, Int.tmod_lt_of_pos _ h0⟩
theorem pk_is (x : Int) {n : Int} (h0 : 0 < n) (h1 : n ≤ 1000) : 0 ≤ pk x n ∧ pk x n < n := by
  have := tmod_is x h0 h1
  rw [pk, wrap_id (by omega) (by omega)]
  exact this
theorem pk3 (x : Int) : pk x 3 = 0 ∨ pk x 3 = 1 ∨ pk x 3 = 2 := by
  have := pk_is x (n := 3) (by decide) (by decide)
  omega
theorem drop_getD {α : Type} (d : α) : ∀ {l : List α} {i : Nat}, i < l.length → l.drop i = l.getD i d :: l.drop (i + 1)
  | [], i, h => absurd h (Nat.not_lt_zero _)
  | a :: l, 0, h => rfl
  | a :: l, i + 1, h => drop_getD d (l := l) (i := i) (Nat.lt_of_succ_lt_succ h)
theorem drop0 {l : List Int} {i : Nat} (h : i < l.length) : l.drop i = at0 l i :: l.drop (i + 1) := drop_getD _ h
theorem drop3 {l : List Wo} {i : Nat} (h : i < l.length) : l.drop i = at3 l i :: l.drop (i + 1) := drop_getD _ h
theorem mem_getD {α : Type} (d : α) : ∀ {l : List α} {i : Nat}, i < l.length → l.getD i d ∈ l
  | [], i, h => absurd h (Nat.not_lt_zero _)
  | a :: l, 0, h => List.mem_cons_self
  | a :: l, i + 1, h => List.mem_cons_of_mem _ (mem_getD d (l := l) (i := i) (Nat.lt_of_succ_lt_succ h))
theorem mem4 {l : List Att} {i : Int} (h0 : 0 ≤ i) (h : i < (l.length : Int)) : at4 l i ∈ l := mem_getD _ (show i.toNat < l.length by omega)
theorem mem3 {l : List Wo} {i : Nat} (h : i < l.length) : at3 l i ∈ l := mem_getD _ (show ((i : Nat) : Int).toNat < l.length from h)
theorem mem0 {l : List Int} {i : Int} (h0 : 0 ≤ i) (h : i < (l.length : Int)) : at0 l i ∈ l := mem_getD _ (show i.toNat < l.length by omega)
theorem ca_len {l : List Att} {o : List Int} {i : Nat} (hp : wkPre l o) (hin : inO l o i) : (attO l o i).ca.length ≤ 1 := (hp.2.2 _ (mem4 hin.2.1 hin.2.2.1)).1
theorem ca_pl {l : List Att} {o : List Int} {i j : Nat} (hp : wkPre l o) (hin : inO l o i) (hj : j < (attO l o i).ca.length) : (at3 (attO l o i).ca j).pl = 0 ∨ (at3 (attO l o i).ca j).pl = 1 ∨ (at3 (attO l o i).ca j).pl = 2 := (hp.2.2 _ (mem4 hin.2.1 hin.2.2.1)).2 _ (mem3 hj)
theorem take_all {l : List Int} {n : Nat} : List.take ((l.length : Int).toNat - n) (List.drop n l) = List.drop n l := List.take_of_length_le (by rw [List.length_drop]; omega)

/-! ### A call -/
theorem callF_none {th : Int} {x : Wo} {s : QS} (h : ¬ x.vl = 10) (h1 : ¬ x.vl = 14) (h2 : ¬ x.vl = 13) : callF th x s = ⟨s.q0, s.q1, s.q2, s.out⟩ := by rw [callF, if_neg h, if_neg h1, if_neg h2]
theorem callF_14 {th : Int} {x : Wo} {s : QS} (h : x.vl = 14) : callF th x s = wakes x.pl (s.q x.pl).length s := by rw [callF, if_neg (by omega), if_pos h]
theorem callF_13 {th : Int} {x : Wo} {s : QS} (h : x.vl = 13) : callF th x s = wakes x.pl 1 s := by rw [callF, if_neg (by omega), if_neg (by omega), if_pos h]
theorem callF_10 {th : Int} {x : Wo} {s : QS} (h : x.vl = 10) : callF th x s = s.setq x.pl (s.q x.pl ++ [th]) := by rw [callF, if_pos h]
theorem push0 {th : Int} {x : Wo} {s : QS} (h : x.vl = 10) (e : x.pl = 0) : callF th x s = ⟨s.q0 ++ [th], s.q1, s.q2, s.out⟩ := by
  rw [callF_10 h, e]
  rfl
theorem qE0 {s : QS} {p : Int} (e : p = 0) : s.q p = s.q0 := by
  subst e
  rfl
theorem wakeN0 {s : QS} {p : Int} (e : p = 0) (h : (s.q0.length : Int) = 0) : wake p s = ⟨s.q0, s.q1, s.q2, s.out⟩ := by
  subst e
  have hq : s.q 0 = [] := List.eq_nil_of_length_eq_zero (by rw [qE0 rfl]; omega)
  rw [wake_none hq]
theorem wakeB0 {s : QS} {p : Int} (e : p = 0) (h : ¬ (s.q0.length : Int) = 0) (h1 : at0 s.q0 0 ≥ 0) (h2 : at0 s.q0 0 < (s.out.length : Int)) : wake p s = ⟨List.take ((s.q0.length : Int).toNat - 1) (List.drop 1 s.q0), s.q1, s.q2, s.out.set (at0 s.q0 0).toNat (IntKind.i64.wrap (at0 s.out (at0 s.q0 0) + 1))⟩ := by
  subst e
  obtain ⟨q0, q1, q2, out⟩ := s
  cases q0 with
  | nil => exact (h rfl).elim
  | cons t r =>
    have hb : bump out t = out.set t.toNat (IntKind.i64.wrap (at0 out t + 1)) := if_pos ⟨h1, h2⟩
    rw [take_all]
    show QS.mk r q1 q2 (bump out t) = _
    rw [hb]
    rfl
theorem wakeS0 {s : QS} {p : Int} (e : p = 0) (h : ¬ (s.q0.length : Int) = 0) (h1 : ¬ (at0 s.q0 0 ≥ 0 ∧ at0 s.q0 0 < (s.out.length : Int))) : wake p s = ⟨List.take ((s.q0.length : Int).toNat - 1) (List.drop 1 s.q0), s.q1, s.q2, s.out⟩ := by
  subst e
  obtain ⟨q0, q1, q2, out⟩ := s
  cases q0 with
  | nil => exact (h rfl).elim
  | cons t r =>
    have hb : bump out t = out := if_neg h1
    rw [take_all]
    show QS.mk r q1 q2 (bump out t) = _
    rw [hb]
    rfl
theorem push1 {th : Int} {x : Wo} {s : QS} (h : x.vl = 10) (e : x.pl = 1) : callF th x s = ⟨s.q0, s.q1 ++ [th], s.q2, s.out⟩ := by
  rw [callF_10 h, e]
  rfl
theorem qE1 {s : QS} {p : Int} (e : p = 1) : s.q p = s.q1 := by
  subst e
  rfl
theorem wakeN1 {s : QS} {p : Int} (e : p = 1) (h : (s.q1.length : Int) = 0) : wake p s = ⟨s.q0, s.q1, s.q2, s.out⟩ := by
  subst e
  have hq : s.q 1 = [] := List.eq_nil_of_length_eq_zero (by rw [qE1 rfl]; omega)
  rw [wake_none hq]
theorem wakeB1 {s : QS} {p : Int} (e : p = 1) (h : ¬ (s.q1.length : Int) = 0) (h1 : at0 s.q1 0 ≥ 0) (h2 : at0 s.q1 0 < (s.out.length : Int)) : wake p s = ⟨s.q0, List.take ((s.q1.length : Int).toNat - 1) (List.drop 1 s.q1), s.q2, s.out.set (at0 s.q1 0).toNat (IntKind.i64.wrap (at0 s.out (at0 s.q1 0) + 1))⟩ := by
  subst e
  obtain ⟨q0, q1, q2, out⟩ := s
  cases q1 with
  | nil => exact (h rfl).elim
  | cons t r =>
    have hb : bump out t = out.set t.toNat (IntKind.i64.wrap (at0 out t + 1)) := if_pos ⟨h1, h2⟩
    rw [take_all]
    show QS.mk q0 r q2 (bump out t) = _
    rw [hb]
    rfl
theorem wakeS1 {s : QS} {p : Int} (e : p = 1) (h : ¬ (s.q1.length : Int) = 0) (h1 : ¬ (at0 s.q1 0 ≥ 0 ∧ at0 s.q1 0 < (s.out.length : Int))) : wake p s = ⟨s.q0, List.take ((s.q1.length : Int).toNat - 1) (List.drop 1 s.q1), s.q2, s.out⟩ := by
  subst e
  obtain ⟨q0, q1, q2, out⟩ := s
  cases q1 with
  | nil => exact (h rfl).elim
  | cons t r =>
    have hb : bump out t = out := if_neg h1
    rw [take_all]
    show QS.mk q0 r q2 (bump out t) = _
    rw [hb]
    rfl
theorem push2 {th : Int} {x : Wo} {s : QS} (h : x.vl = 10) (e : x.pl = 2) : callF th x s = ⟨s.q0, s.q1, s.q2 ++ [th], s.out⟩ := by
  rw [callF_10 h, e]
  rfl
theorem qE2 {s : QS} {p : Int} (e : p = 2) : s.q p = s.q2 := by
  subst e
  rfl
theorem wakeN2 {s : QS} {p : Int} (e : p = 2) (h : (s.q2.length : Int) = 0) : wake p s = ⟨s.q0, s.q1, s.q2, s.out⟩ := by
  subst e
  have hq : s.q 2 = [] := List.eq_nil_of_length_eq_zero (by rw [qE2 rfl]; omega)
  rw [wake_none hq]
theorem wakeB2 {s : QS} {p : Int} (e : p = 2) (h : ¬ (s.q2.length : Int) = 0) (h1 : at0 s.q2 0 ≥ 0) (h2 : at0 s.q2 0 < (s.out.length : Int)) : wake p s = ⟨s.q0, s.q1, List.take ((s.q2.length : Int).toNat - 1) (List.drop 1 s.q2), s.out.set (at0 s.q2 0).toNat (IntKind.i64.wrap (at0 s.out (at0 s.q2 0) + 1))⟩ := by
  subst e
  obtain ⟨q0, q1, q2, out⟩ := s
  cases q2 with
  | nil => exact (h rfl).elim
  | cons t r =>
    have hb : bump out t = out.set t.toNat (IntKind.i64.wrap (at0 out t + 1)) := if_pos ⟨h1, h2⟩
    rw [take_all]
    show QS.mk q0 q1 r (bump out t) = _
    rw [hb]
    rfl
theorem wakeS2 {s : QS} {p : Int} (e : p = 2) (h : ¬ (s.q2.length : Int) = 0) (h1 : ¬ (at0 s.q2 0 ≥ 0 ∧ at0 s.q2 0 < (s.out.length : Int))) : wake p s = ⟨s.q0, s.q1, List.take ((s.q2.length : Int).toNat - 1) (List.drop 1 s.q2), s.out⟩ := by
  subst e
  obtain ⟨q0, q1, q2, out⟩ := s
  cases q2 with
  | nil => exact (h rfl).elim
  | cons t r =>
    have hb : bump out t = out := if_neg h1
    rw [take_all]
    show QS.mk q0 q1 r (bump out t) = _
    rw [hb]
    rfl
theorem qle_mono {s : QS} {n m : Nat} (h : qle s n) (k : n ≤ m) : qle s m := ⟨Nat.le_trans h.1 k, Nat.le_trans h.2.1 k, Nat.le_trans h.2.2 k⟩
theorem qle_q {s : QS} {n : Nat} (h : qle s n) (c : Int) : (s.q c).length ≤ n := by
  unfold QS.q
  repeat' split
  · exact h.1
  · exact h.2.1
  · exact h.2.2
theorem setq_qle {s : QS} {n : Nat} (h : qle s n) {c : Int} {l : List Int} (k : l.length ≤ n) : qle (s.setq c l) n := by
  unfold QS.setq
  repeat' split
  · exact ⟨k, h.2.1, h.2.2⟩
  · exact ⟨h.1, k, h.2.2⟩
  · exact ⟨h.1, h.2.1, k⟩
theorem wake_qle {s : QS} {n : Nat} (h : qle s n) (c : Int) : qle (wake c s) n := by
  have hq := qle_q h c
  cases e : s.q c with
  | nil => rw [wake_none e]; exact h
  | cons t r =>
    rw [wake_is e]
    rw [e] at hq
    exact setq_qle h (c := c) (l := r) (by simp at hq; omega)
theorem wakes_qle {n : Nat} (c : Int) : ∀ (k : Nat) {s : QS}, qle s n → qle (wakes c k s) n
  | 0, s, h => h
  | k + 1, s, h => wakes_qle c k (wake_qle h c)
theorem callF_qle {s : QS} {n : Nat} (h : qle s n) (th : Int) (x : Wo) : qle (callF th x s) (n + 1) := by
  unfold callF
  repeat' split
  · refine setq_qle (qle_mono h (Nat.le_succ _)) ?_
    have := qle_q h x.pl
    simp
    omega
  · exact wakes_qle _ _ (qle_mono h (Nat.le_succ _))
  · exact wakes_qle _ _ (qle_mono h (Nat.le_succ _))
  · exact qle_mono h (Nat.le_succ _)

/-! ### The law's -/
theorem fam0 {P0 P1 P2 : Prop} (h : P0) : ∃ b : Bool, (b = true → P0) ∧ (b = false → ∃ b : Bool, (b = true → P1) ∧ (b = false → P2)) := ⟨true, fun _ => h, fun h => (nomatch h)⟩
theorem fam1 {P0 P1 P2 : Prop} (h : P1) : ∃ b : Bool, (b = true → P0) ∧ (b = false → ∃ b : Bool, (b = true → P1) ∧ (b = false → P2)) := ⟨false, fun h => (nomatch h), fun _ => ⟨true, fun _ => h, fun h => (nomatch h)⟩⟩
theorem fam2 {P0 P1 P2 : Prop} (h : P2) : ∃ b : Bool, (b = true → P0) ∧ (b = false → ∃ b : Bool, (b = true → P1) ∧ (b = false → P2)) := ⟨false, fun h => (nomatch h), fun _ => ⟨false, fun h => (nomatch h), fun _ => h⟩⟩
theorem aL_hit {l : List Cl} {ab : List Bool} {i : Nat} {c : Int} (h : abF ab i = true) (hc : pk (at2 l i).co 3 = c) : aL l ab i ++ [Att.mk (thL l i) (IntKind.i64.wrap ((i : Int) + 1)) false 0 0 7 0 0 [] [] [] [Wo.mk c (kd (at2 l i).ki)]] = aL l ab (i + 1) := by
  subst hc
  rw [aL_succ, mkA, if_pos h]
  rfl
theorem aL_miss {l : List Cl} {ab : List Bool} {i : Nat} {c : Int} (h : abF ab i = false) (hc : pk (at2 l i).co 3 = c) : aL l ab i ++ [Att.mk (thL l i) (IntKind.i64.wrap ((i : Int) + 1)) false 0 0 6 0 0 [] [] [] [Wo.mk c (kd (at2 l i).ki)]] = aL l ab (i + 1) := by
  subst hc
  rw [aL_succ, mkA, if_neg (by rw [h]; decide)]
  rfl
theorem ab_hit {ab : List Bool} {i : Nat} (h : (i : Int) < (ab.length : Int)) : abF ab i = at1 ab i := if_pos h
theorem ab_out {ab : List Bool} {i : Nat} (h : ¬ (i : Int) < (ab.length : Int)) : abF ab i = false := if_neg h
theorem kd_is (x : Int) : kd x = 10 ∨ kd x = 13 ∨ kd x = 14 := by
  unfold kd
  repeat' split
  · exact .inl rfl
  · exact .inr (.inl rfl)
  · exact .inr (.inr rfl)
theorem rest_step {c : Int} {n j : Nat} {s : QS} (hj : j < n) (hn : n ≤ (s.q c).length) : rest c n j s = rest c n (j + 1) (s.wout (bump s.out (at0 (s.q c) j))) := by
  have e : ((s.q c).take n).drop j = at0 (s.q c) j :: ((s.q c).take n).drop (j + 1) := by
    have h := drop0 (l := (s.q c).take n) (i := j) (by rw [List.length_take]; omega)
    have g : at0 ((s.q c).take n) j = at0 (s.q c) j := by
      have gen : ∀ d : Int, ((s.q c).take n).getD j d = (s.q c).getD j d := fun d => by rw [List.getD_eq_getElem?_getD, List.getD_eq_getElem?_getD, List.getElem?_take, if_pos hj]
      exact gen _
    rw [h, g]
  unfold rest
  rw [wout_q, wout_setq, e]
  rfl
theorem rest_end {c : Int} {n : Nat} {s : QS} : rest c n n s = s.setq c ((s.q c).drop n) := by
  unfold rest
  have e : ((s.q c).take n).drop n = [] := List.drop_eq_nil_of_le (by rw [List.length_take]; omega)
  rw [e]
  show (s.setq c ((s.q c).drop n)).wout s.out = _
  rw [← setq_out s c ((s.q c).drop n)]
  rfl
theorem rest_gone {c : Int} {n : Nat} {s : QS} : rest c n 0 s = gone c n s := rfl
theorem gone_one {c : Int} {s : QS} {n : Nat} (h : n = min 1 (s.q c).length) : gone c n s = gone c 1 s := by
  subst h
  unfold gone
  cases e : s.q c with
  | nil => rfl
  | cons t r =>
    have : min 1 (t :: r).length = 1 := by simp
    rw [this]
theorem bump4_0 {a b c d t : Int} (h : t = 0) : bump [a, b, c, d] t = [IntKind.i64.wrap (a + 1), b, c, d] := by
  subst h
  rfl
theorem bump4_1 {a b c d t : Int} (h : t = 1) : bump [a, b, c, d] t = [a, IntKind.i64.wrap (b + 1), c, d] := by
  subst h
  rfl
theorem bump4_2 {a b c d t : Int} (h : t = 2) : bump [a, b, c, d] t = [a, b, IntKind.i64.wrap (c + 1), d] := by
  subst h
  rfl
theorem bump4_3 {a b c d t : Int} (h : t = 3) : bump [a, b, c, d] t = [a, b, c, IntKind.i64.wrap (d + 1)] := by
  subst h
  rfl
theorem lsOk_setq {s : QS} {n : Nat} (h : lsOk s n) {c : Int} {l : List Int} (k : l.length ≤ n) (hl : ∀ t, t ∈ l → 0 ≤ t ∧ t < 4) : lsOk (s.setq c l) n := by
  refine ⟨setq_qle h.1 k, ?_⟩
  unfold QS.setq
  repeat' split
  · exact ⟨hl, h.2.2.1, h.2.2.2⟩
  · exact ⟨h.2.1, hl, h.2.2.2⟩
  · exact ⟨h.2.1, h.2.2.1, hl⟩
theorem lsOk_mono {s : QS} {n m : Nat} (h : lsOk s n) (k : n ≤ m) : lsOk s m := ⟨qle_mono h.1 k, h.2⟩
theorem lsOk_q {s : QS} {n : Nat} (h : lsOk s n) (c : Int) : ∀ t, t ∈ s.q c → 0 ≤ t ∧ t < 4 := by
  unfold QS.q
  repeat' split
  · exact h.2.1
  · exact h.2.2.1
  · exact h.2.2.2
theorem aL_pre {l : List Cl} {ab : List Bool} {i : Nat} (hi : i ≤ 40) {o : List Int} (ho : o.length ≤ 40) : wkPre (aL l ab i) o := by
  refine ⟨by omega, by rw [aL_len]; omega, fun x hx => ?_⟩
  obtain ⟨k, _, rfl⟩ := List.mem_map.1 hx
  refine ⟨Nat.le_refl _, fun w hw => ?_⟩
  have hw : w ∈ [woF l k] := hw
  rw [List.mem_singleton] at hw
  subst hw
  exact pk3 _
end Go.Proofs.Ytomlcdalhihnaaa

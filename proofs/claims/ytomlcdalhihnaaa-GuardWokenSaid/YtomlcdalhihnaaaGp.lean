/- Who is woken: what queues say, in plain lists; and what the law's own queues say. -/
import Derived.Test.YtomlcdalhihnaaaCod
namespace Go.Proofs.Ytomlcdalhihnaaa
open Go.RowKit Go.Am Go.Sy
set_option linter.unusedVariables false

/-- Three queues, and how often each was woken. -/
structure QS where
  q0 : List Int
  q1 : List Int
  q2 : List Int
  out : List Int
def QS.q (s : QS) (c : Int) : List Int := if c = 0 then s.q0 else if c = 1 then s.q1 else s.q2
def QS.setq (s : QS) (c : Int) (l : List Int) : QS := if c = 0 then ⟨l, s.q1, s.q2, s.out⟩ else if c = 1 then ⟨s.q0, l, s.q2, s.out⟩ else ⟨s.q0, s.q1, l, s.out⟩
def bump (out : List Int) (t : Int) : List Int := if 0 ≤ t ∧ t < (out.length : Int) then out.set t.toNat (IntKind.i64.wrap (at0 out t + 1)) else out
def wake (c : Int) (s : QS) : QS := match s.q c with
  | [] => s
  | t :: l => ⟨(s.setq c l).q0, (s.setq c l).q1, (s.setq c l).q2, bump s.out t⟩
def wakes (c : Int) : Nat → QS → QS
  | 0, s => s
  | n + 1, s => wakes c n (wake c s)
def callF (th : Int) (x : Wo) (s : QS) : QS :=
  if x.vl = 10 then s.setq x.pl (s.q x.pl ++ [th]) else if x.vl = 14 then wakes x.pl (s.q x.pl).length s else if x.vl = 13 then wakes x.pl 1 s else s
def callsF (th : Int) : List Wo → QS → QS
  | [], s => s
  | x :: l, s => callsF th l (callF th x s)
def attF (l : List Att) (o : Int) (s : QS) : QS := if o < 0 ∨ (l.length : Int) ≤ o ∨ (at4 l o).en ≠ 6 then s else callsF (at4 l o).th (at4 l o).ca s
def attsF (l : List Att) : List Int → QS → QS
  | [], s => s
  | o :: r, s => attsF l r (attF l o s)
def lenF (n : Int) : Int := if 4 < (if n < 0 then 0 else n) then 4 else (if n < 0 then 0 else n)
def start (n : Int) : QS := ⟨[], [], [], List.replicate (lenF n).toNat 0⟩
def wokenF (l : List Att) (order : List Int) (n : Int) : List Int := (attsF l order (start n)).out

theorem attsF_append (l : List Att) : ∀ (a b : List Int) (s : QS), attsF l (a ++ b) s = attsF l b (attsF l a s)
  | [], b, s => rfl
  | o :: a, b, s => attsF_append l a b (attF l o s)

/-! ### How many there are -/
theorem lenF_is (n : Int) : 0 ≤ lenF n ∧ lenF n ≤ 4 := by
  unfold lenF
  repeat' split
  all_goals omega
theorem bump_len (out : List Int) (t : Int) : (bump out t).length = out.length := by
  unfold bump
  split
  · simp
  · rfl
theorem setq_out (s : QS) (c : Int) (l : List Int) : (s.setq c l).out = s.out := by
  unfold QS.setq
  repeat' split
  all_goals rfl
theorem wake_len (c : Int) (s : QS) : (wake c s).out.length = s.out.length := by
  unfold wake
  split
  · rfl
  · exact bump_len _ _
theorem wakes_len (c : Int) : ∀ (n : Nat) (s : QS), (wakes c n s).out.length = s.out.length
  | 0, s => rfl
  | n + 1, s => (wakes_len c n _).trans (wake_len c s)
theorem callF_len (th : Int) (x : Wo) (s : QS) : (callF th x s).out.length = s.out.length := by
  unfold callF
  repeat' split
  · rw [setq_out]
  · exact wakes_len _ _ _
  · exact wakes_len _ _ _
  · rfl
theorem callsF_len (th : Int) : ∀ (l : List Wo) (s : QS), (callsF th l s).out.length = s.out.length
  | [], s => rfl
  | x :: l, s => (callsF_len th l _).trans (callF_len th x s)
theorem attF_len (l : List Att) (o : Int) (s : QS) : (attF l o s).out.length = s.out.length := by
  unfold attF
  split
  · rfl
  · exact callsF_len _ _ _
theorem attsF_len (l : List Att) : ∀ (r : List Int) (s : QS), (attsF l r s).out.length = s.out.length
  | [], s => rfl
  | o :: r, s => (attsF_len l r _).trans (attF_len l o s)
theorem woken_len (l : List Att) (order : List Int) (n : Int) : (wokenF l order n).length = (lenF n).toNat := by
  rw [wokenF, attsF_len]
  simp [start]

/-! ### Each one of a queue -/
theorem q_setq {s : QS} {c : Int} {l : List Int} : (s.setq c l).q c = l := by
  unfold QS.setq QS.q
  by_cases h0 : c = 0
  · simp [h0]
  · by_cases h1 : c = 1
    · simp [h1]
    · simp [h0, h1]
theorem setq_setq {s : QS} {c : Int} {l k : List Int} : (s.setq c l).setq c k = s.setq c k := by
  unfold QS.setq
  by_cases h0 : c = 0
  · simp [h0]
  · by_cases h1 : c = 1
    · simp [h1]
    · simp [h0, h1]
theorem setq_q {s : QS} {c : Int} : s.setq c (s.q c) = s := by
  unfold QS.setq QS.q
  by_cases h0 : c = 0
  · simp [h0]
  · by_cases h1 : c = 1
    · simp [h1]
    · simp [h0, h1]
def QS.wout (s : QS) (o : List Int) : QS := ⟨s.q0, s.q1, s.q2, o⟩
theorem wout_q {s : QS} {o : List Int} {c : Int} : (s.wout o).q c = s.q c := rfl
theorem wout_setq {s : QS} {o l : List Int} {c : Int} : (s.wout o).setq c l = (s.setq c l).wout o := by
  unfold QS.setq QS.wout
  repeat' split
  all_goals rfl
def bumps (out : List Int) : List Int → List Int
  | [] => out
  | t :: l => bumps (bump out t) l
/-- So many of a queue are woken. -/
def gone (c : Int) (n : Nat) (s : QS) : QS := (s.setq c ((s.q c).drop n)).wout (bumps s.out ((s.q c).take n))
theorem wake_is {c : Int} {s : QS} {t : Int} {l : List Int} (h : s.q c = t :: l) : wake c s = (s.setq c l).wout (bump s.out t) := by
  unfold wake
  rw [h]
  rfl
theorem wake_none {c : Int} {s : QS} (h : s.q c = []) : wake c s = s := by
  unfold wake
  rw [h]
theorem wakes_gone (c : Int) : ∀ (n : Nat) (s : QS), wakes c n s = gone c n s
  | 0, s => by
    unfold gone
    rw [List.drop_zero, List.take_zero, setq_q]
    rfl
  | n + 1, s => by
    rw [wakes, wakes_gone c n]
    cases h : s.q c with
    | nil =>
      rw [wake_none h]
      unfold gone
      rw [h, List.drop_nil, List.drop_nil, List.take_nil, List.take_nil]
    | cons t l =>
      rw [wake_is h]
      unfold gone
      rw [wout_q, q_setq, h, wout_setq, setq_setq]
      rfl

/-! ### The law's own queues -/
def pk (x n : Int) : Int := IntKind.i64.wrap ((IntKind.u64.wrap x).tmod n)
def kd (x : Int) : Int := if (IntKind.u64.wrap x).tmod 3 = 0 then 10 else if (IntKind.u64.wrap x).tmod 3 = 1 then 13 else 14
def abF (ab : List Bool) (i : Nat) : Bool := if (i : Int) < (ab.length : Int) then at1 ab i else false
def woF (l : List Cl) (i : Nat) : Wo := ⟨pk (at2 l i).co 3, kd (at2 l i).ki⟩
def mkA (l : List Cl) (ab : List Bool) (i : Nat) : Att := ⟨pk (at2 l i).th 4, IntKind.i64.wrap ((i : Int) + 1), false, 0, 0, if abF ab i = true then 7 else 6, 0, 0, [], [], [], [woF l i]⟩
def aL (l : List Cl) (ab : List Bool) (i : Nat) : List Att := (List.range i).map (mkA l ab)
def oL (i : Nat) : List Int := (List.range i).map fun (k : Nat) => (k : Int)
def stL (l : List Cl) (ab : List Bool) : Nat → QS
  | 0 => ⟨[], [], [], [0, 0, 0, 0]⟩
  | i + 1 => if abF ab i = true then stL l ab i else callF (pk (at2 l i).th 4) (woF l i) (stL l ab i)

theorem aL_len (l : List Cl) (ab : List Bool) (i : Nat) : (aL l ab i).length = i := by simp [aL]
theorem oL_len (i : Nat) : (oL i).length = i := by simp [oL]
theorem aL_succ (l : List Cl) (ab : List Bool) (i : Nat) : aL l ab (i + 1) = aL l ab i ++ [mkA l ab i] := by simp [aL, List.range_succ]
theorem oL_succ (i : Nat) : oL (i + 1) = oL i ++ [(i : Int)] := by simp [oL, List.range_succ]
theorem aL_at (l : List Cl) (ab : List Bool) {i n : Nat} (h : i < n) : at4 (aL l ab n) (i : Int) = mkA l ab i := by
  have e : at4 (aL l ab n) (i : Int) = (aL l ab n).getD i (cod.dflt 4) := rfl
  have g : ∀ d : Att, (aL l ab n).getD i d = mkA l ab i := fun d => by
    rw [List.getD_eq_getElem?_getD]
    simp [aL, h]
  exact e.trans (g _)

theorem woken_atts (l : List Cl) (ab : List Bool) (n : Nat) : ∀ i, i ≤ n → attsF (aL l ab n) (oL i) (start 4) = stL l ab i
  | 0, _ => rfl
  | i + 1, h => by
    rw [oL_succ, attsF_append, woken_atts l ab n i (by omega)]
    show attF (aL l ab n) (i : Int) (stL l ab i) = _
    unfold attF
    rw [aL_at l ab (show i < n by omega), aL_len, stL]
    by_cases e : abF ab i = true
    · rw [if_pos (.inr (.inr (by simp [mkA, e]))), if_pos e]
    · rw [if_neg (by simp [mkA, e]; omega), if_neg e]
      rfl
theorem woken_law (l : List Cl) (ab : List Bool) (n : Nat) : wokenF (aL l ab n) (oL n) 4 = (stL l ab n).out := by
  rw [wokenF, woken_atts l ab n n (Nat.le_refl _)]
end Go.Proofs.Ytomlcdalhihnaaa

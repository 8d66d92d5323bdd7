/- Registers and memory as trees, for the kernel's sake. Generic. -/
import Derived.Test.YtomlcdalhihnaaaDoorAmExec
namespace Go.Am

inductive Bt (α : Type) where
  | l (a : α)
  | n (x y : Bt α)

noncomputable def Bt.get {α : Type} (t : Bt α) : Nat → Option α :=
  Bt.rec (motive := fun _ => Nat → Option α) (fun a _ => some a) (fun _ _ f g i => Bool.rec (f (Nat.div i 2)) (g (Nat.div i 2)) (Nat.beq (Nat.mod i 2) 1)) t
noncomputable def Bt.set {α : Type} (t : Bt α) (v : α) : Nat → Bt α :=
  Bt.rec (motive := fun _ => Nat → Bt α) (fun _ _ => .l v) (fun x y f g i => Bool.rec (.n (f (Nat.div i 2)) y) (.n x (g (Nat.div i 2))) (Nat.beq (Nat.mod i 2) 1)) t
noncomputable def Bt.full {α : Type} (a : α) (d : Nat) : Bt α := Nat.rec (.l a) (fun _ t => .n t t) d

def Full {α : Type} : Nat → Bt α → Prop
  | 0, .l _ => True
  | d + 1, .n x y => Full d x ∧ Full d y
  | _, _ => False

theorem full_full {α : Type} (a : α) : ∀ d, Full d (Bt.full a d)
  | 0 => trivial
  | d + 1 => ⟨full_full a d, full_full a d⟩

theorem get_full {α : Type} (a : α) : ∀ (d i : Nat), (Bt.full a d).get i = some a
  | 0, _ => rfl
  | d + 1, i => by
    show Bool.rec ((Bt.full a d).get (Nat.div i 2)) ((Bt.full a d).get (Nat.div i 2)) (Nat.beq (Nat.mod i 2) 1) = some a
    cases Nat.beq (Nat.mod i 2) 1 <;> exact get_full a d _

theorem full_set {α : Type} (v : α) : ∀ (d : Nat) (t : Bt α) (i : Nat), Full d t → Full d (t.set v i)
  | 0, .l _, _, _ => trivial
  | 0, .n _ _, _, h => h.elim
  | d + 1, .l _, _, h => h.elim
  | d + 1, .n x y, i, h => by
    show Full (d + 1) (Bool.rec (.n (x.set v (Nat.div i 2)) y) (.n x (y.set v (Nat.div i 2))) (Nat.beq (Nat.mod i 2) 1))
    cases Nat.beq (Nat.mod i 2) 1
    · exact ⟨full_set v d x _ h.1, h.2⟩
    · exact ⟨h.1, full_set v d y _ h.2⟩

theorem get_set {α : Type} (v : α) : ∀ (d : Nat) (t : Bt α) (i j : Nat), Full d t → i < 2 ^ d → j < 2 ^ d → (t.set v i).get j = if i = j then some v else t.get j
  | 0, .l _, i, j, _, hi, hj => by
    have : i = j := by simp at hi hj; omega
    subst this
    simp only [if_true]
    rfl
  | 0, .n _ _, _, _, h, _, _ => h.elim
  | d + 1, .l _, _, _, h, _, _ => h.elim
  | d + 1, .n x y, i, j, h, hi, hj => by
    have hi2 : i / 2 < 2 ^ d := by rw [Nat.pow_succ] at hi; omega
    have hj2 : j / 2 < 2 ^ d := by rw [Nat.pow_succ] at hj; omega
    have e1 : ∀ z : Nat, Nat.beq (Nat.mod z 2) 1 = decide (z % 2 = 1) := fun z => by
      show Nat.beq (z % 2) 1 = _
      rw [Bool.eq_iff_iff, Nat.beq_eq, decide_eq_true_eq]
    have gt : ∀ (p q : Bt α) (z : Nat), (Bt.n p q).get z = if z % 2 = 1 then q.get (z / 2) else p.get (z / 2) := by
      intro p q z
      have : (Bt.n p q).get z = (match Nat.beq (Nat.mod z 2) 1 with | false => p.get (Nat.div z 2) | true => q.get (Nat.div z 2)) := by
        show (Bool.rec (p.get (Nat.div z 2)) (q.get (Nat.div z 2)) (Nat.beq (Nat.mod z 2) 1) : Option α) = _
        cases Nat.beq (Nat.mod z 2) 1 <;> rfl
      rw [this, e1]
      by_cases h : z % 2 = 1 <;> simp [h] <;> rfl
    have st : (Bt.n x y).set v i = if i % 2 = 1 then .n x (y.set v (i / 2)) else .n (x.set v (i / 2)) y := by
      have : (Bt.n x y).set v i = (match Nat.beq (Nat.mod i 2) 1 with | false => Bt.n (x.set v (Nat.div i 2)) y | true => .n x (y.set v (Nat.div i 2))) := by
        show (Bool.rec (Bt.n (x.set v (Nat.div i 2)) y) (.n x (y.set v (Nat.div i 2))) (Nat.beq (Nat.mod i 2) 1) : Bt α) = _
        cases Nat.beq (Nat.mod i 2) 1 <;> rfl
      rw [this, e1]
      by_cases h : i % 2 = 1 <;> simp [h] <;> rfl
    rw [st]
    by_cases a : i % 2 = 1 <;> by_cases b : j % 2 = 1
    · rw [if_pos a, gt, gt, if_pos b, if_pos b, get_set v d y _ _ h.2 hi2 hj2]
      have : i / 2 = j / 2 ↔ i = j := by omega
      simp [this]
    · rw [if_pos a, gt, gt, if_neg b, if_neg b, if_neg (by omega)]
    · rw [if_neg a, gt, gt, if_pos b, if_pos b, if_neg (by omega)]
    · rw [if_neg a, gt, gt, if_neg b, if_neg b, get_set v d x _ _ h.1 hi2 hj2]
      have : i / 2 = j / 2 ↔ i = j := by omega
      simp [this]

/-! ### Registers -/
structure Rg where
  t : Bt AVal
  n : Nat

noncomputable def Rg.get? (r : Rg) (i : Nat) : Option AVal := bif Nat.blt i r.n then r.t.get i else none
noncomputable def Rg.get (r : Rg) (i : Nat) : AVal := (r.get? i).getD undefA
noncomputable def Rg.set (r : Rg) (i : Nat) (v : AVal) : Rg := bif Nat.blt i r.n then ⟨r.t.set v i, r.n⟩ else r
noncomputable def Rg.toL (r : Rg) : List AVal := (List.range r.n).map r.get

def Rg.Ok (r : Rg) : Prop := Full 9 r.t ∧ r.n ≤ 512

theorem blt_iff (i n : Nat) : Nat.blt i n = decide (i < n) := by
  rw [Bool.eq_iff_iff, decide_eq_true_eq, Nat.blt_eq]

theorem full_some {α : Type} : ∀ (d : Nat) (t : Bt α) (i : Nat), Full d t → ∃ a, t.get i = some a
  | 0, .l a, _, _ => ⟨a, rfl⟩
  | 0, .n _ _, _, h => h.elim
  | d + 1, .l _, _, h => h.elim
  | d + 1, .n x y, i, h => by
    show ∃ a, Bool.rec (x.get (Nat.div i 2)) (y.get (Nat.div i 2)) (Nat.beq (Nat.mod i 2) 1) = some a
    cases Nat.beq (Nat.mod i 2) 1
    · exact full_some d x _ h.1
    · exact full_some d y _ h.2

theorem Rg.get?_toL {r : Rg} (h : r.Ok) (i : Nat) : r.toL[i]? = r.get? i := by
  unfold Rg.toL
  rw [List.getElem?_map]
  unfold Rg.get?
  rw [blt_iff]
  by_cases hi : i < r.n
  · rw [List.getElem?_range hi]
    obtain ⟨a, ha⟩ := full_some 9 r.t i h.1
    simp [hi, Rg.get, Rg.get?, blt_iff, ha]
  · simp [hi]

theorem Rg.get_toL {r : Rg} (h : r.Ok) (i : Nat) : r.toL.getD i undefA = r.get i := by
  rw [List.getD_eq_getElem?_getD, Rg.get?_toL h]
  rfl

theorem Rg.set_ok {r : Rg} (h : r.Ok) (i : Nat) (v : AVal) : (r.set i v).Ok := by
  unfold Rg.set
  cases Nat.blt i r.n
  · exact h
  · exact ⟨full_set v 9 _ _ h.1, h.2⟩

theorem Rg.set_toL {r : Rg} (h : r.Ok) (i : Nat) (v : AVal) : (r.set i v).toL = r.toL.set i v := by
  apply List.ext_getElem?
  intro j
  rw [Rg.get?_toL (Rg.set_ok h i v), List.getElem?_set]
  have hlen : r.toL.length = r.n := by simp [Rg.toL]
  rw [Rg.get?_toL h, hlen]
  unfold Rg.set
  rw [blt_iff]
  by_cases hi : i < r.n
  · simp only [hi, decide_true, cond_true, Rg.get?, blt_iff]
    by_cases hj : j < r.n
    · simp only [hj, decide_true, cond_true]
      have h1 := h.2
      rw [get_set v 9 _ _ _ h.1 (by omega) (by omega)]
      split <;> simp_all
    · simp only [hj, decide_false, cond_false]
      split
      · omega
      · rfl
  · simp only [hi, decide_false, cond_false]
    split
    · rename_i e
      subst e
      simp only [if_false, Rg.get?, blt_iff, hi, decide_false, cond_false]
    · rfl

/-- The frame of a call. -/
noncomputable def Rg.fill : List AVal → Nat → Rg → Rg
  | [], _, r => r
  | a :: as, i, r => Rg.fill as (i + 1) (r.set i a)
noncomputable def Rg.frame (args : List AVal) (n : Nat) : Rg := Rg.fill args 0 ⟨Bt.full undefA 9, n⟩

theorem fill_ok : ∀ (as : List AVal) (i : Nat) {r : Rg}, r.Ok → (Rg.fill as i r).Ok
  | [], _, _, h => h
  | a :: as, i, _, h => fill_ok as (i + 1) (Rg.set_ok h i a)

theorem fill_toL : ∀ (as : List AVal) (i : Nat) {r : Rg}, r.Ok → i + as.length ≤ r.n → (Rg.fill as i r).toL = r.toL.take i ++ as ++ r.toL.drop (i + as.length)
  | [], i, r, _, _ => by simp [Rg.fill]
  | a :: as, i, r, h, hl => by
    have hn : (r.set i a).n = r.n := by
      unfold Rg.set
      cases Nat.blt i r.n <;> rfl
    have hlen : r.toL.length = r.n := by simp [Rg.toL]
    simp only [List.length_cons] at hl
    simp only [Rg.fill]
    rw [fill_toL as (i + 1) (Rg.set_ok h i a) (by rw [hn]; omega), Rg.set_toL h]
    have h1 : (r.toL.set i a).take (i + 1) = r.toL.take i ++ [a] := by
      rw [List.take_set, List.take_succ_eq_append_getElem (by omega), List.set_append_right _ _ (by simp; omega)]
      simp
      rw [show i - min i r.toL.length = 0 by omega]
      rfl
    have h2 : (r.toL.set i a).drop (i + 1 + as.length) = r.toL.drop (i + (as.length + 1)) := by
      rw [List.drop_set_of_lt (by omega)]
      congr 1
      omega
    rw [h1, h2]
    simp

theorem frame_ok (args : List AVal) (n : Nat) (hn : n ≤ 512) : (Rg.frame args n).Ok := fill_ok _ _ ⟨full_full _ _, hn⟩
theorem frame_toL (args : List AVal) (n : Nat) (hn : n ≤ 512) (h : args.length ≤ n) : (Rg.frame args n).toL = args ++ List.replicate (n - args.length) undefA := by
  unfold Rg.frame
  rw [fill_toL args 0 ⟨full_full _ _, hn⟩ (by simpa using h)]
  have : (Rg.mk (Bt.full undefA 9) n).toL = List.replicate n undefA := by
    apply List.ext_getElem?
    intro i
    rw [Rg.get?_toL ⟨full_full _ _, hn⟩, List.getElem?_replicate]
    simp only [Rg.get?, blt_iff]
    by_cases hi : i < n <;> simp [hi, get_full]
  rw [this]
  simp

/-! ### Memory -/
structure Hp where
  t : Bt (Option ABlk)
  n : Nat

noncomputable def Hp.get (h : Hp) (b : Nat) : Option (Option ABlk) := bif Nat.blt b h.n then h.t.get b else none
noncomputable def Hp.set (h : Hp) (b : Nat) (x : Option ABlk) : Hp := bif Nat.blt b h.n then ⟨h.t.set x b, h.n⟩ else h
noncomputable def Hp.push (h : Hp) (x : Option ABlk) : Option Hp := bif Nat.blt h.n 4096 then some ⟨h.t.set x h.n, h.n + 1⟩ else none
noncomputable def Hp.more (h : Hp) (k : Nat) : Option Hp := bif Nat.ble (h.n + k) 4096 then some ⟨h.t, h.n + k⟩ else none
noncomputable def Hp.toL (h : Hp) : Heap := (List.range h.n).map fun i => (h.t.get i).getD none
noncomputable def Hp.empty : Hp := ⟨Bt.full none 12, 0⟩

def Hp.Ok (h : Hp) : Prop := Full 12 h.t ∧ h.n ≤ 4096 ∧ ∀ i, h.n ≤ i → i < 4096 → h.t.get i = some none

theorem Hp.empty_ok : Hp.empty.Ok := ⟨full_full _ _, Nat.zero_le _, fun i _ _ => get_full (none : Option ABlk) 12 i⟩
theorem Hp.empty_toL : Hp.empty.toL = [] := rfl

theorem Hp.length_toL (h : Hp) : h.toL.length = h.n := by simp [Hp.toL]

theorem Hp.get_toL {h : Hp} (ho : h.Ok) (b : Nat) : h.toL[b]? = h.get b := by
  unfold Hp.toL
  rw [List.getElem?_map]
  unfold Hp.get
  rw [blt_iff]
  by_cases hi : b < h.n
  · rw [List.getElem?_range hi]
    obtain ⟨a, ha⟩ := full_some 12 h.t b ho.1
    simp [hi, ha]
  · simp [hi]

theorem Hp.set_ok {h : Hp} (ho : h.Ok) (b : Nat) (x : Option ABlk) : (h.set b x).Ok := by
  unfold Hp.set
  rw [blt_iff]
  by_cases hb : b < h.n
  · simp only [hb, decide_true, cond_true]
    refine ⟨full_set x 12 _ _ ho.1, ho.2.1, fun i h1 h2 => ?_⟩
    have := ho.2.1
    have h1 : h.n ≤ i := h1
    rw [get_set x 12 _ _ _ ho.1 (by omega) (by omega), if_neg (by omega)]
    exact ho.2.2 i h1 h2
  · simp only [hb, decide_false, cond_false]
    exact ho

theorem Hp.set_toL {h : Hp} (ho : h.Ok) (b : Nat) (x : Option ABlk) : (h.set b x).toL = h.toL.set b x := by
  apply List.ext_getElem?
  intro j
  rw [Hp.get_toL (Hp.set_ok ho b x), List.getElem?_set, Hp.get_toL ho, Hp.length_toL]
  unfold Hp.set
  rw [blt_iff]
  by_cases hi : b < h.n
  · simp only [hi, decide_true, cond_true, Hp.get, blt_iff]
    by_cases hj : j < h.n
    · simp only [hj, decide_true, cond_true]
      have h1 := ho.2.1
      rw [get_set x 12 _ _ _ ho.1 (by omega) (by omega)]
      split <;> simp_all
    · simp only [hj, decide_false, cond_false]
      split
      · omega
      · rfl
  · simp only [hi, decide_false, cond_false]
    split
    · rename_i e
      subst e
      simp only [if_false, Hp.get, blt_iff, hi, decide_false, cond_false]
    · rfl

theorem Hp.push_ok {h h' : Hp} (ho : h.Ok) {x : Option ABlk} (e : h.push x = some h') : h'.Ok ∧ h'.toL = h.toL ++ [x] := by
  unfold Hp.push at e
  rw [blt_iff] at e
  by_cases hn : h.n < 4096
  · simp only [hn, decide_true, cond_true, Option.some.injEq] at e
    subst e
    have hok : Hp.Ok ⟨h.t.set x h.n, h.n + 1⟩ := by
      refine ⟨full_set x 12 _ _ ho.1, hn, fun i h1 h2 => ?_⟩
      have h1 : h.n + 1 ≤ i := h1
      show (h.t.set x h.n).get i = some none
      rw [get_set x 12 _ _ _ ho.1 (by omega) (by omega), if_neg (by omega)]
      exact ho.2.2 i (by omega) h2
    refine ⟨hok, ?_⟩
    apply List.ext_getElem?
    intro j
    rw [Hp.get_toL hok]
    simp only [Hp.get, blt_iff]
    rcases Nat.lt_trichotomy j h.n with hj | hj | hj
    · rw [List.getElem?_append_left (by rw [Hp.length_toL]; exact hj), Hp.get_toL ho]
      simp only [Hp.get, blt_iff, hj, decide_true, cond_true, show j < h.n + 1 by omega]
      rw [get_set x 12 _ _ _ ho.1 (by omega) (by omega), if_neg (by omega)]
    · subst hj
      rw [List.getElem?_append_right (by rw [Hp.length_toL]; exact Nat.le_refl _), Hp.length_toL]
      simp only [Nat.sub_self, List.getElem?_cons_zero, show h.n < h.n + 1 by omega, decide_true, cond_true]
      rw [get_set x 12 _ _ _ ho.1 (by omega) (by omega), if_pos rfl]
    · rw [List.getElem?_eq_none (by simp [Hp.length_toL]; omega)]
      simp [show ¬ j < h.n + 1 by omega]
  · simp [hn] at e

theorem Hp.more_ok {h h' : Hp} (ho : h.Ok) {k : Nat} (e : h.more k = some h') : h'.Ok ∧ h'.toL = h.toL ++ List.replicate k none := by
  unfold Hp.more at e
  by_cases hn : h.n + k ≤ 4096
  · have : Nat.ble (h.n + k) 4096 = true := by rw [Nat.ble_eq]; exact hn
    simp only [this, cond_true, Option.some.injEq] at e
    subst e
    have hok : Hp.Ok ⟨h.t, h.n + k⟩ := ⟨ho.1, hn, fun i h1 h2 => ho.2.2 i (by have h1 : h.n + k ≤ i := h1; omega) h2⟩
    refine ⟨hok, ?_⟩
    apply List.ext_getElem?
    intro j
    rw [Hp.get_toL hok]
    simp only [Hp.get, blt_iff]
    by_cases hj : j < h.n
    · rw [List.getElem?_append_left (by rw [Hp.length_toL]; exact hj), Hp.get_toL ho]
      simp only [Hp.get, blt_iff, hj, decide_true, cond_true, show j < h.n + k by omega]
    · rw [List.getElem?_append_right (by rw [Hp.length_toL]; omega), Hp.length_toL, List.getElem?_replicate]
      by_cases hj2 : j < h.n + k
      · simp only [hj2, decide_true, cond_true, show j - h.n < k by omega, if_true]
        exact ho.2.2 j (by omega) (by omega)
      · simp [hj2, show ¬ j - h.n < k by omega]
  · have : Nat.ble (h.n + k) 4096 = false := by
      rw [Bool.eq_false_iff]
      intro hh
      exact hn (by rwa [Nat.ble_eq] at hh)
    simp [this] at e

end Go.Am

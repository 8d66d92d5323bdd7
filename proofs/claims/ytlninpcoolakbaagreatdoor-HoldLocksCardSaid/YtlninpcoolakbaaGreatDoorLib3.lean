/- Library, part 3: AmTree, AmFast, AmLift, AmShelf, AmWeak, AmRound, AmInts, AmTy, SyVal, SyOp, SySim, SySim2, SyExec, SyHeap. General texts of the author of this claim: an idealised machine and a symbolic one, both proved sound over the model. -/
import Derived.Lib.SplitLaws
import Derived.Lib.AtoiErrMem
import Derived.Lib.ParseIntB
import Derived.Test.YtlninpcoolakbaaGreatDoorLib2
set_option linter.unusedVariables false
set_option linter.unusedSimpArgs false
/- Registers and memory as trees, for the kernel's sake. Generic. -/
namespace Go.Am
inductive Bt (α : Type) where
  | l (a : α)
  | n (x y : Bt α)
noncomputable def Bt.get {α : Type} (t : Bt α) : Nat → Option α :=
  Bt.rec (motive := fun _ => Nat → Option α) (fun a _ => some a) (fun _ _ f g i => Bool.rec (f (Nat.div i 2)) (g (Nat.div i 2)) (Nat.beq (Nat.mod i 2) 1)) t
noncomputable def Bt.set {α : Type} (t : Bt α) (v : α) : Nat → Bt α :=
  Bt.rec (motive := fun _ => Nat → Bt α) (fun _ _ => .l v) (fun x y f g i => Bool.rec (.n (f (Nat.div i 2)) y) (.n x (g (Nat.div i 2))) (Nat.beq (Nat.mod i 2) 1)) t
noncomputable def Bt.full {α : Type} (a : α) (d : Nat) : Bt α := Nat.rec (.l a) (fun _ t => .n t t) d
def Full {α : Type} : Nat → Bt α → Prop
  | 0, .l _ => True
  | d + 1, .n x y => Full d x ∧ Full d y
  | _, _ => False
theorem full_full {α : Type} (a : α) : ∀ d, Full d (Bt.full a d)
  | 0 => trivial
  | d + 1 => ⟨full_full a d, full_full a d⟩
theorem get_full {α : Type} (a : α) : ∀ (d i : Nat), (Bt.full a d).get i = some a
  | 0, _ => rfl
  | d + 1, i => by
    show Bool.rec ((Bt.full a d).get (Nat.div i 2)) ((Bt.full a d).get (Nat.div i 2)) (Nat.beq (Nat.mod i 2) 1) = some a
    cases Nat.beq (Nat.mod i 2) 1 <;> exact get_full a d _
theorem full_set {α : Type} (v : α) : ∀ (d : Nat) (t : Bt α) (i : Nat), Full d t → Full d (t.set v i)
  | 0, .l _, _, _ => trivial
  | 0, .n _ _, _, h => h.elim
  | d + 1, .l _, _, h => h.elim
  | d + 1, .n x y, i, h => by
    show Full (d + 1) (Bool.rec (.n (x.set v (Nat.div i 2)) y) (.n x (y.set v (Nat.div i 2))) (Nat.beq (Nat.mod i 2) 1))
    cases Nat.beq (Nat.mod i 2) 1
    · exact ⟨full_set v d x _ h.1, h.2⟩
    · exact ⟨h.1, full_set v d y _ h.2⟩
theorem get_set {α : Type} (v : α) : ∀ (d : Nat) (t : Bt α) (i j : Nat), Full d t → i < 2 ^ d → j < 2 ^ d → (t.set v i).get j = if i = j then some v else t.get j
  | 0, .l _, i, j, _, hi, hj => by
    have : i = j := by simp at hi hj; omega
    subst this
    simp only [if_true]
    rfl
  | 0, .n _ _, _, _, h, _, _ => h.elim
  | d + 1, .l _, _, _, h, _, _ => h.elim
  | d + 1, .n x y, i, j, h, hi, hj => by
    have hi2 : i / 2 < 2 ^ d := by rw [Nat.pow_succ] at hi; omega
    have hj2 : j / 2 < 2 ^ d := by rw [Nat.pow_succ] at hj; omega
    have e1 : ∀ z : Nat, Nat.beq (Nat.mod z 2) 1 = decide (z % 2 = 1) := fun z => by
      show Nat.beq (z % 2) 1 = _
      rw [Bool.eq_iff_iff, Nat.beq_eq, decide_eq_true_eq]
    have gt : ∀ (p q : Bt α) (z : Nat), (Bt.n p q).get z = if z % 2 = 1 then q.get (z / 2) else p.get (z / 2) := by
      intro p q z
      have : (Bt.n p q).get z = (match Nat.beq (Nat.mod z 2) 1 with | false => p.get (Nat.div z 2) | true => q.get (Nat.div z 2)) := by
        show (Bool.rec (p.get (Nat.div z 2)) (q.get (Nat.div z 2)) (Nat.beq (Nat.mod z 2) 1) : Option α) = _
        cases Nat.beq (Nat.mod z 2) 1 <;> rfl
      rw [this, e1]
      by_cases h : z % 2 = 1 <;> simp [h] <;> rfl
    have st : (Bt.n x y).set v i = if i % 2 = 1 then .n x (y.set v (i / 2)) else .n (x.set v (i / 2)) y := by
      have : (Bt.n x y).set v i = (match Nat.beq (Nat.mod i 2) 1 with | false => Bt.n (x.set v (Nat.div i 2)) y | true => .n x (y.set v (Nat.div i 2))) := by
        show (Bool.rec (Bt.n (x.set v (Nat.div i 2)) y) (.n x (y.set v (Nat.div i 2))) (Nat.beq (Nat.mod i 2) 1) : Bt α) = _
        cases Nat.beq (Nat.mod i 2) 1 <;> rfl
      rw [this, e1]
      by_cases h : i % 2 = 1 <;> simp [h] <;> rfl
    rw [st]
    by_cases a : i % 2 = 1 <;> by_cases b : j % 2 = 1
    · rw [if_pos a, gt, gt, if_pos b, if_pos b, get_set v d y _ _ h.2 hi2 hj2]
      have : i / 2 = j / 2 ↔ i = j := by omega
      simp [this]
    · rw [if_pos a, gt, gt, if_neg b, if_neg b, if_neg (by omega)]
    · rw [if_neg a, gt, gt, if_pos b, if_pos b, if_neg (by omega)]
    · rw [if_neg a, gt, gt, if_neg b, if_neg b, get_set v d x _ _ h.1 hi2 hj2]
      have : i / 2 = j / 2 ↔ i = j := by omega
      simp [this]
structure Rg where
  t : Bt AVal
  n : Nat
noncomputable def Rg.get? (r : Rg) (i : Nat) : Option AVal := bif Nat.blt i r.n then r.t.get i else none
noncomputable def Rg.get (r : Rg) (i : Nat) : AVal := (r.get? i).getD undefA
noncomputable def Rg.set (r : Rg) (i : Nat) (v : AVal) : Rg := bif Nat.blt i r.n then ⟨r.t.set v i, r.n⟩ else r
noncomputable def Rg.toL (r : Rg) : List AVal := (List.range r.n).map r.get
def Rg.Ok (r : Rg) : Prop := Full 9 r.t ∧ r.n ≤ 512
theorem blt_iff (i n : Nat) : Nat.blt i n = decide (i < n) := by
  rw [Bool.eq_iff_iff, decide_eq_true_eq, Nat.blt_eq]
theorem full_some {α : Type} : ∀ (d : Nat) (t : Bt α) (i : Nat), Full d t → ∃ a, t.get i = some a
  | 0, .l a, _, _ => ⟨a, rfl⟩
  | 0, .n _ _, _, h => h.elim
  | d + 1, .l _, _, h => h.elim
  | d + 1, .n x y, i, h => by
    show ∃ a, Bool.rec (x.get (Nat.div i 2)) (y.get (Nat.div i 2)) (Nat.beq (Nat.mod i 2) 1) = some a
    cases Nat.beq (Nat.mod i 2) 1
    · exact full_some d x _ h.1
    · exact full_some d y _ h.2
theorem Rg.get?_toL {r : Rg} (h : r.Ok) (i : Nat) : r.toL[i]? = r.get? i := by
  unfold Rg.toL
  rw [List.getElem?_map]
  unfold Rg.get?
  rw [blt_iff]
  by_cases hi : i < r.n
  · rw [List.getElem?_range hi]
    obtain ⟨a, ha⟩ := full_some 9 r.t i h.1
    simp [hi, Rg.get, Rg.get?, blt_iff, ha]
  · simp [hi]
theorem Rg.get_toL {r : Rg} (h : r.Ok) (i : Nat) : r.toL.getD i undefA = r.get i := by
  rw [List.getD_eq_getElem?_getD, Rg.get?_toL h]
  rfl
theorem Rg.set_ok {r : Rg} (h : r.Ok) (i : Nat) (v : AVal) : (r.set i v).Ok := by
  unfold Rg.set
  cases Nat.blt i r.n
  · exact h
  · exact ⟨full_set v 9 _ _ h.1, h.2⟩
theorem Rg.set_toL {r : Rg} (h : r.Ok) (i : Nat) (v : AVal) : (r.set i v).toL = r.toL.set i v := by
  apply List.ext_getElem?
  intro j
  rw [Rg.get?_toL (Rg.set_ok h i v), List.getElem?_set]
  have hlen : r.toL.length = r.n := by simp [Rg.toL]
  rw [Rg.get?_toL h, hlen]
  unfold Rg.set
  rw [blt_iff]
  by_cases hi : i < r.n
  · simp only [hi, decide_true, cond_true, Rg.get?, blt_iff]
    by_cases hj : j < r.n
    · simp only [hj, decide_true, cond_true]
      have h1 := h.2
      rw [get_set v 9 _ _ _ h.1 (by omega) (by omega)]
      split <;> simp_all
    · simp only [hj, decide_false, cond_false]
      split
      · omega
      · rfl
  · simp only [hi, decide_false, cond_false]
    split
    · rename_i e
      subst e
      simp only [if_false, Rg.get?, blt_iff, hi, decide_false, cond_false]
    · rfl
noncomputable def Rg.fill : List AVal → Nat → Rg → Rg
  | [], _, r => r
  | a :: as, i, r => Rg.fill as (i + 1) (r.set i a)
noncomputable def Rg.frame (args : List AVal) (n : Nat) : Rg := Rg.fill args 0 ⟨Bt.full undefA 9, n⟩
theorem fill_ok : ∀ (as : List AVal) (i : Nat) {r : Rg}, r.Ok → (Rg.fill as i r).Ok
  | [], _, _, h => h
  | a :: as, i, _, h => fill_ok as (i + 1) (Rg.set_ok h i a)
theorem fill_toL : ∀ (as : List AVal) (i : Nat) {r : Rg}, r.Ok → i + as.length ≤ r.n → (Rg.fill as i r).toL = r.toL.take i ++ as ++ r.toL.drop (i + as.length)
  | [], i, r, _, _ => by simp [Rg.fill]
  | a :: as, i, r, h, hl => by
    have hn : (r.set i a).n = r.n := by
      unfold Rg.set
      cases Nat.blt i r.n <;> rfl
    have hlen : r.toL.length = r.n := by simp [Rg.toL]
    simp only [List.length_cons] at hl
    simp only [Rg.fill]
    rw [fill_toL as (i + 1) (Rg.set_ok h i a) (by rw [hn]; omega), Rg.set_toL h]
    have h1 : (r.toL.set i a).take (i + 1) = r.toL.take i ++ [a] := by
      rw [List.take_set, List.take_succ_eq_append_getElem (by omega), List.set_append_right _ _ (by simp; omega)]
      simp
      rw [show i - min i r.toL.length = 0 by omega]
      rfl
    have h2 : (r.toL.set i a).drop (i + 1 + as.length) = r.toL.drop (i + (as.length + 1)) := by
      rw [List.drop_set_of_lt (by omega)]
      congr 1
      omega
    rw [h1, h2]
    simp
theorem frame_ok (args : List AVal) (n : Nat) (hn : n ≤ 512) : (Rg.frame args n).Ok := fill_ok _ _ ⟨full_full _ _, hn⟩
theorem frame_toL (args : List AVal) (n : Nat) (hn : n ≤ 512) (h : args.length ≤ n) : (Rg.frame args n).toL = args ++ List.replicate (n - args.length) undefA := by
  unfold Rg.frame
  rw [fill_toL args 0 ⟨full_full _ _, hn⟩ (by simpa using h)]
  have : (Rg.mk (Bt.full undefA 9) n).toL = List.replicate n undefA := by
    apply List.ext_getElem?
    intro i
    rw [Rg.get?_toL ⟨full_full _ _, hn⟩, List.getElem?_replicate]
    simp only [Rg.get?, blt_iff]
    by_cases hi : i < n <;> simp [hi, get_full]
  rw [this]
  simp
structure Hp where
  t : Bt (Option ABlk)
  n : Nat
noncomputable def Hp.get (h : Hp) (b : Nat) : Option (Option ABlk) := bif Nat.blt b h.n then h.t.get b else none
noncomputable def Hp.set (h : Hp) (b : Nat) (x : Option ABlk) : Hp := bif Nat.blt b h.n then ⟨h.t.set x b, h.n⟩ else h
noncomputable def Hp.push (h : Hp) (x : Option ABlk) : Option Hp := bif Nat.blt h.n 4096 then some ⟨h.t.set x h.n, h.n + 1⟩ else none
noncomputable def Hp.more (h : Hp) (k : Nat) : Option Hp := bif Nat.ble (h.n + k) 4096 then some ⟨h.t, h.n + k⟩ else none
noncomputable def Hp.toL (h : Hp) : Heap := (List.range h.n).map fun i => (h.t.get i).getD none
noncomputable def Hp.empty : Hp := ⟨Bt.full none 12, 0⟩
def Hp.Ok (h : Hp) : Prop := Full 12 h.t ∧ h.n ≤ 4096 ∧ ∀ i, h.n ≤ i → i < 4096 → h.t.get i = some none
theorem Hp.empty_ok : Hp.empty.Ok := ⟨full_full _ _, Nat.zero_le _, fun i _ _ => get_full (none : Option ABlk) 12 i⟩
theorem Hp.empty_toL : Hp.empty.toL = [] := rfl
theorem Hp.length_toL (h : Hp) : h.toL.length = h.n := by simp [Hp.toL]
theorem Hp.get_toL {h : Hp} (ho : h.Ok) (b : Nat) : h.toL[b]? = h.get b := by
  unfold Hp.toL
  rw [List.getElem?_map]
  unfold Hp.get
  rw [blt_iff]
  by_cases hi : b < h.n
  · rw [List.getElem?_range hi]
    obtain ⟨a, ha⟩ := full_some 12 h.t b ho.1
    simp [hi, ha]
  · simp [hi]
theorem Hp.set_ok {h : Hp} (ho : h.Ok) (b : Nat) (x : Option ABlk) : (h.set b x).Ok := by
  unfold Hp.set
  rw [blt_iff]
  by_cases hb : b < h.n
  · simp only [hb, decide_true, cond_true]
    refine ⟨full_set x 12 _ _ ho.1, ho.2.1, fun i h1 h2 => ?_⟩
    have := ho.2.1
    have h1 : h.n ≤ i := h1
    rw [get_set x 12 _ _ _ ho.1 (by omega) (by omega), if_neg (by omega)]
    exact ho.2.2 i h1 h2
  · simp only [hb, decide_false, cond_false]
    exact ho
theorem Hp.set_toL {h : Hp} (ho : h.Ok) (b : Nat) (x : Option ABlk) : (h.set b x).toL = h.toL.set b x := by
  apply List.ext_getElem?
  intro j
  rw [Hp.get_toL (Hp.set_ok ho b x), List.getElem?_set, Hp.get_toL ho, Hp.length_toL]
  unfold Hp.set
  rw [blt_iff]
  by_cases hi : b < h.n
  · simp only [hi, decide_true, cond_true, Hp.get, blt_iff]
    by_cases hj : j < h.n
    · simp only [hj, decide_true, cond_true]
      have h1 := ho.2.1
      rw [get_set x 12 _ _ _ ho.1 (by omega) (by omega)]
      split <;> simp_all
    · simp only [hj, decide_false, cond_false]
      split
      · omega
      · rfl
  · simp only [hi, decide_false, cond_false]
    split
    · rename_i e
      subst e
      simp only [if_false, Hp.get, blt_iff, hi, decide_false, cond_false]
    · rfl
theorem Hp.push_ok {h h' : Hp} (ho : h.Ok) {x : Option ABlk} (e : h.push x = some h') : h'.Ok ∧ h'.toL = h.toL ++ [x] := by
  unfold Hp.push at e
  rw [blt_iff] at e
  by_cases hn : h.n < 4096
  · simp only [hn, decide_true, cond_true, Option.some.injEq] at e
    subst e
    have hok : Hp.Ok ⟨h.t.set x h.n, h.n + 1⟩ := by
      refine ⟨full_set x 12 _ _ ho.1, hn, fun i h1 h2 => ?_⟩
      have h1 : h.n + 1 ≤ i := h1
      show (h.t.set x h.n).get i = some none
      rw [get_set x 12 _ _ _ ho.1 (by omega) (by omega), if_neg (by omega)]
      exact ho.2.2 i (by omega) h2
    refine ⟨hok, ?_⟩
    apply List.ext_getElem?
    intro j
    rw [Hp.get_toL hok]
    simp only [Hp.get, blt_iff]
    rcases Nat.lt_trichotomy j h.n with hj | hj | hj
    · rw [List.getElem?_append_left (by rw [Hp.length_toL]; exact hj), Hp.get_toL ho]
      simp only [Hp.get, blt_iff, hj, decide_true, cond_true, show j < h.n + 1 by omega]
      rw [get_set x 12 _ _ _ ho.1 (by omega) (by omega), if_neg (by omega)]
    · subst hj
      rw [List.getElem?_append_right (by rw [Hp.length_toL]; exact Nat.le_refl _), Hp.length_toL]
      simp only [Nat.sub_self, List.getElem?_cons_zero, show h.n < h.n + 1 by omega, decide_true, cond_true]
      rw [get_set x 12 _ _ _ ho.1 (by omega) (by omega), if_pos rfl]
    · rw [List.getElem?_eq_none (by simp [Hp.length_toL]; omega)]
      simp [show ¬ j < h.n + 1 by omega]
  · simp [hn] at e
theorem Hp.more_ok {h h' : Hp} (ho : h.Ok) {k : Nat} (e : h.more k = some h') : h'.Ok ∧ h'.toL = h.toL ++ List.replicate k none := by
  unfold Hp.more at e
  by_cases hn : h.n + k ≤ 4096
  · have : Nat.ble (h.n + k) 4096 = true := by rw [Nat.ble_eq]; exact hn
    simp only [this, cond_true, Option.some.injEq] at e
    subst e
    have hok : Hp.Ok ⟨h.t, h.n + k⟩ := ⟨ho.1, hn, fun i h1 h2 => ho.2.2 i (by have h1 : h.n + k ≤ i := h1; omega) h2⟩
    refine ⟨hok, ?_⟩
    apply List.ext_getElem?
    intro j
    rw [Hp.get_toL hok]
    simp only [Hp.get, blt_iff]
    by_cases hj : j < h.n
    · rw [List.getElem?_append_left (by rw [Hp.length_toL]; exact hj), Hp.get_toL ho]
      simp only [Hp.get, blt_iff, hj, decide_true, cond_true, show j < h.n + k by omega]
    · rw [List.getElem?_append_right (by rw [Hp.length_toL]; omega), Hp.length_toL, List.getElem?_replicate]
      by_cases hj2 : j < h.n + k
      · simp only [hj2, decide_true, cond_true, show j - h.n < k by omega, if_true]
        exact ho.2.2 j (by omega) (by omega)
      · simp [hj2, show ¬ j - h.n < k by omega]
  · have : Nat.ble (h.n + k) 4096 = false := by
      rw [Bool.eq_false_iff]
      intro hh
      exact hn (by rwa [Nat.ble_eq] at hh)
    simp [this] at e
end Go.Am

/- The idealised run once more, over trees, for the kernel: what it comes to the run over lists comes to. Generic: over any program. -/
namespace Go.Am
abbrev HGet := Nat → Option (Option ABlk)
def atG (hg : HGet) : AVal → Option (List AVal)
  | .ipt cs => some cs
  | .eptr _ cs => some cs
  | .ptr b off => match hg b with
    | some (some (.cells cs)) => some (cs.drop off)
    | _ => none
  | _ => none
theorem atG_eq (H : Heap) (x : AVal) : atG (fun b => H[b]?) x = atA H x := by cases x <;> rfl
section
variable (P : Program)
def loadG (t : TypeId) (hg : HGet) (x : AVal) : Option AVal := (atG hg x).bind fun cs => partA P t cs 0
def sliceG (t : TypeId) (hg : HGet) (x : AVal) (lo hi mx : Option AVal) : Option AVal :=
  match P.underlying t, x with
  | some (.array n e), .ptr b off =>
    if (P.info? e).isSome ∧ mx.isNone then
      match hg b with
      | some (some (.cells cs)) =>
        if off + n * szOf P e ≤ cs.length then (boundA n n hi).bind fun h => (boundA 0 h lo).map fun l => .sl (szOf P e) b (off + l * szOf P e) (h - l) (n - l) true
        else none
      | _ => none
    else none
  | _, _ => sliceA P t [] x lo hi mx
theorem sliceG_eq (t : TypeId) (H : Heap) (x : AVal) (lo hi mx : Option AVal) : sliceG P t (fun b => H[b]?) x lo hi mx = sliceA P t H x lo hi mx := by
  unfold sliceG
  split
  · rename_i n e b off hu
    simp only [sliceA, hu]
    rfl
  · rename_i hne
    unfold sliceA
    split
    · rfl
    · rfl
    · rename_i n e hu
      split
      · split
        · rename_i b off
          exact (hne n e b off hu rfl).elim
        · rfl
        · rfl
      · rfl
    · rfl
def lenG (t : TypeId) (hg : HGet) (x : AVal) : Option AVal :=
  match P.underlying t, x with
  | some .string, .str s => some (.int .i64 s.length)
  | some (.array _ _), .mapr _ => none
  | some (.array n _), _ => some (.int .i64 n)
  | some (.slice _), .nils => some (.int .i64 0)
  | some (.slice _), .list _ rows _ => some (.int .i64 rows.length)
  | some (.slice _), .sl _ _ _ len _ _ => some (.int .i64 len)
  | some (.map _ _), .nilm => some (.int .i64 0)
  | some (.map _ _), .mapr b => match hg b with
    | some (some (.mp es)) => some (.int .i64 es.length)
    | _ => none
  | _, _ => none
def lookupG (t : TypeId) (hg : HGet) (m x : AVal) (ok : Bool) : Option AVal :=
  match P.underlying t with
  | some (.map kt et) =>
    match keyKind P kt, zeroA P et with
    | some k, some z =>
      if keyOk k x then
        match m with
        | .nilm => some (if ok then .tup [z, .bool false] else z)
        | .mapr b =>
          match hg b with
          | some (some (.mp es)) =>
            match findA k x es 0 with
            | some (some (_, v)) => some (if ok then .tup [v, .bool true] else v)
            | some none => some (if ok then .tup [z, .bool false] else z)
            | none => none
          | _ => none
        | _ => none
      else none
    | _, _ => none
  | _ => none
inductive Ed where
  | nop
  | set (b : Nat) (x : Option ABlk)
  | push (x : ABlk)
  | mv (b : Nat) (x : ABlk)
def Ed.onL (H : Heap) : Ed → Heap
  | .nop => H
  | .set b x => H.set b x
  | .push x => H ++ [some x]
  | .mv b x => H.set b none ++ [some x]
noncomputable def Ed.onH (h : Hp) : Ed → Option Hp
  | .nop => some h
  | .set b x => some (h.set b x)
  | .push x => h.push (some x)
  | .mv b x => (h.set b none).push (some x)
theorem Ed.on_ok {h h' : Hp} (ho : h.Ok) : ∀ {e : Ed}, e.onH h = some h' → h'.Ok ∧ h'.toL = e.onL h.toL
  | .nop, e => by simp only [Ed.onH, Option.some.injEq] at e; subst e; exact ⟨ho, rfl⟩
  | .set b x, e => by
    simp only [Ed.onH, Option.some.injEq] at e
    subst e
    exact ⟨Hp.set_ok ho b x, Hp.set_toL ho b x⟩
  | .push x, e => Hp.push_ok ho e
  | .mv b x, e => by
    obtain ⟨h1, h2⟩ := Hp.push_ok (Hp.set_ok ho b none) e
    exact ⟨h1, by rw [h2, Hp.set_toL ho]; rfl⟩
def storeG (lo : Nat) (t : TypeId) (hg : HGet) (x v : AVal) : Option Ed :=
  match x with
  | .ptr b off => match hg b with
    | some (some (.cells cs)) =>
      if lo ≤ b ∧ v.cells.length = szOf P t ∧ (P.info? t).isSome ∧ v.cells.all AVal.one ∧ off + v.cells.length ≤ cs.length then
        some (.set b (some (.cells (splice cs off v.cells))))
      else none
    | _ => none
  | _ => none
theorem storeG_eq (lo : Nat) (t : TypeId) (H : Heap) (x v : AVal) : (storeG P lo t (fun b => H[b]?) x v).map (Ed.onL H) = storeA P lo t H x v := by
  unfold storeG storeA
  cases x <;> first | rfl | skip
  rename_i b off
  simp only
  cases H[b]? with
  | none => rfl
  | some o => cases o with
    | none => rfl
    | some blk => cases blk with
      | mp es => rfl
      | it s pos => rfl
      | mi b since seen last => rfl
      | cells cs =>
        simp only [apply_ite (Option.map (Ed.onL H)), Option.map_none, Option.map_some]
        rfl
def mapUpdateG (lo : Nat) (t : TypeId) (hg : HGet) (m x v : AVal) : Option Ed :=
  match P.underlying t with
  | some (.map kt _) =>
    match keyKind P kt with
    | some k =>
      if keyOk k x then
        match m with
        | .mapr b =>
          if lo ≤ b then
            match hg b with
            | some (some (.mp es)) =>
              match findA k x es 0 with
              | some (some (i, _)) => some (.set b (some (.mp (es.set i (x, v)))))
              | some none => some (.set b (some (.mp (es ++ [(x, v)]))))
              | none => none
            | _ => none
          else none
        | _ => none
      else none
    | none => none
  | _ => none
theorem mapUpdateG_eq (lo : Nat) (t : TypeId) (H : Heap) (m x v : AVal) : (mapUpdateG P lo t (fun b => H[b]?) m x v).map (Ed.onL H) = mapUpdateA P lo t H m x v := by
  unfold mapUpdateG mapUpdateA
  cases P.underlying t with
  | none => rfl
  | some d =>
    cases d <;> first | rfl | skip
    rename_i kt et
    simp only
    cases keyKind P kt with
    | none => rfl
    | some k =>
      simp only [apply_ite (Option.map (Ed.onL H)), Option.map_none]
      congr 1
      cases m <;> first | rfl | skip
      rename_i b
      simp only [apply_ite (Option.map (Ed.onL H)), Option.map_none]
      congr 1
      cases H[b]? with
      | none => rfl
      | some o => cases o with
        | none => rfl
        | some blk => cases blk with
          | cells cs => rfl
          | it s pos => rfl
          | mi b since seen last => rfl
          | mp es =>
            simp only
            cases findA k x es 0 with
            | none => rfl
            | some q => cases q with
              | none => rfl
              | some y => rfl
def rowsG (hg : HGet) (sz : Nat) : AVal → Option (List (List AVal))
  | .nils => some []
  | .list s rows _ => if s = sz then some rows else none
  | .str s => if sz = 1 then some (s.map fun b => [.int .u8 b.toNat]) else none
  | .sl s b off len _ _ => if s = sz then
      match hg b with
      | some (some (.cells cs)) => if off + len * sz ≤ cs.length then some (chunk sz len (cs.drop off)) else none
      | _ => none
    else none
  | _ => none
theorem rowsG_eq (H : Heap) (sz : Nat) (x : AVal) : rowsG (fun b => H[b]?) sz x = rowsA H sz x := by cases x <;> rfl
def appendG (lo : Nat) (t u : TypeId) (hl : Nat) (hg : HGet) (s x : AVal) : Option (AVal × Ed) :=
  match P.underlying t with
  | some (.slice e) =>
    let sz := szOf P e
    if (P.info? e).isSome ∧ sz ≠ 0 ∧ notIntB P u = true ∧ zeroFits P e = true ∧ P.bytesOf e ≠ 0 then
      match rowsG hg sz x with
      | none => none
      | some rows =>
        let new := rows.flatten
        let n := rows.length
        if !(new.all AVal.one) then none else
        match s with
        | .nils =>
          if n = 0 then some (.nils, .nop)
          else if n * P.bytesOf e ≤ 140737488355328 then some (.sl sz hl 0 n n false, .push (.cells new))
          else none
        | .list s0 rs ex =>
          if s0 ≠ sz then none else
          if n = 0 then some (.list s0 rs ex, .nop)
          else if ex ∧ (rs.flatten).all AVal.one ∧ (rs.length + n) * P.bytesOf e ≤ 140737488355328 then some (.sl sz hl 0 (rs.length + n) (rs.length + n) false, .push (.cells (rs.flatten ++ new)))
          else none
        | .sl s0 b off len cap ex =>
          if s0 ≠ sz then none else
          match hg b with
          | some (some (.cells cs)) =>
            if off + len * sz ≤ cs.length then
              if n = 0 then some (.sl s0 b off len cap ex, .nop)
              else if len + n ≤ cap then
                if lo ≤ b ∧ off + (len + n) * sz ≤ cs.length then some (.sl sz b off (len + n) cap ex, .set b (some (.cells (splice cs (off + len * sz) new))))
                else none
              else if (len + n) * P.bytesOf e ≤ 140737488355328 then
                if ex then some (.sl sz hl 0 (len + n) (len + n) false, .push (.cells ((cs.drop off).take (len * sz) ++ new)))
                else if lo ≤ b ∧ off + len * sz = cs.length then some (.sl sz hl 0 (len + n) (len + n) false, .mv b (.cells (cs.drop off ++ new)))
                else none
              else none
            else none
          | _ => none
        | _ => none
    else none
  | _ => none
theorem appendG_eq (lo : Nat) (t u : TypeId) (H : Heap) (s x : AVal) : (appendG P lo t u H.length (fun b => H[b]?) s x).map (fun r => (r.1, r.2.onL H)) = appendA P lo t u H s x := by
  unfold appendG appendA
  cases P.underlying t with
  | none => rfl
  | some d =>
    cases d <;> first | rfl | skip
    rename_i e
    simp only [rowsG_eq, apply_ite (Option.map fun r : AVal × Ed => (r.1, r.2.onL H)), Option.map_none]
    congr 1
    cases rowsA H (szOf P e) x with
    | none => rfl
    | some rows =>
      simp only [apply_ite (Option.map fun r : AVal × Ed => (r.1, r.2.onL H)), Option.map_none]
      congr 1
      cases s <;> first | rfl | skip
      · simp only [apply_ite (Option.map fun r : AVal × Ed => (r.1, r.2.onL H)), Option.map_none, Option.map_some]
        rfl
      · simp only [apply_ite (Option.map fun r : AVal × Ed => (r.1, r.2.onL H)), Option.map_none, Option.map_some]
        rfl
      · rename_i s0 b off len cap ex
        simp only [apply_ite (Option.map fun r : AVal × Ed => (r.1, r.2.onL H)), Option.map_none]
        congr 1
        cases H[b]? with
        | none => rfl
        | some o => cases o with
          | none => rfl
          | some blk => cases blk with
            | mp es => rfl
            | it s pos => rfl
            | mi b since seen last => rfl
            | cells cs =>
              simp only [apply_ite (Option.map fun r : AVal × Ed => (r.1, r.2.onL H)), Option.map_none, Option.map_some]
              rfl
end
def newG (S : AStat) (ev : Operand → AVal) : Op → Option (ABlk × (Nat → AVal))
  | .alloc t => allocA S.P t
  | .box _ x => boxA (ev x)
  | .buildSlice t len parts => buildSliceA S.P t len (parts.toList.map fun p => (p.1, ev p.2))
  | .makeSlice t l c => makeSliceA S.P t (ev l) (ev c)
  | .makeMap _ none => some (.mp [], fun id => .mapr id)
  | .range t x => rangeA S.P t (ev x)
  | _ => none
theorem newG_eq (S : AStat) (ρ : List AVal) (o : Op) : newG S (evalA S ρ) o = newA S ρ o := by
  cases o <;> first | rfl | (rename_i t r; cases r <;> rfl)
def qPick (ev : Operand → AVal) (c a b : Operand) : Option AVal :=
  match ev c with
  | .bool true => some (ev a)
  | .bool false => some (ev b)
  | _ => none
def qBuild (P : Program) (ev : Operand → AVal) (t : TypeId) (parts : Array (Nat × Operand)) : Option AVal := buildA P t (parts.toList.map fun p => (p.1, ev p.2))
def qBin (P : Program) (ev : Operand → AVal) (op : BinOp) (t : TypeId) (x y : Operand) : Option AVal := binA P op t (litB x || litB y) (ev x) (ev y)
def qIface (P : Program) (ev : Operand → AVal) (t : TypeId) (x : Operand) : Option AVal := if ifaceB P t then none else some (.iface t (ev x))
def qFunc (ev : Operand → AVal) (f : Fn) (first captured : Array Operand) : Option AVal := some (.fn f (first.toList.map ev) (captured.toList.map ev))
def qSlice (P : Program) (ev : Operand → AVal) (hg : HGet) (t : TypeId) (x : Operand) (lo hi mx : Option Operand) : Option AVal := sliceG P t hg (ev x) (lo.map ev) (hi.map ev) (mx.map ev)
def strOfG (P : Program) (s d : TypeId) (hg : HGet) (x : AVal) : Option AVal :=
  match P.underlying s, P.underlying d with
  | some (.slice e), some .string =>
    match P.underlying e, x with
    | some (.int .u8), .nils => some (.str [])
    | some (.int .u8), .list sz rows _ => if sz = 1 then (bytesOf? rows).map .str else none
    | some (.int .u8), .sl sz b off len _ _ =>
      if sz = 1 then
        match hg b with
        | some (some (.cells cs)) => if off + len ≤ cs.length then (bytesOf? (chunk 1 len (cs.drop off))).map .str else none
        | _ => none
      else none
    | _, _ => none
  | _, _ => none
def qConv (P : Program) (hg : HGet) (s d : TypeId) (x : AVal) : Option AVal :=
  match convA P s d x with
  | some v => some v
  | none => strOfG P s d hg x
def qExtract (ev : Operand → AVal) (x : Operand) (i : Nat) : Option AVal :=
  match ev x with
  | .tup vs => vs[i]?
  | _ => none
def qLen (P : Program) (ev : Operand → AVal) (hg : HGet) (args : Array Operand) (ts : Array TypeId) : Option AVal :=
  match ts[0]?, args[0]? with
  | some t, some x => lenG P t hg (ev x)
  | _, _ => none
def qMin (ev : Operand → AVal) (args : Array Operand) : Option AVal :=
  match args.toList.map ev with
  | [.int k x, .int _ y] => some (.int k (if y < x then y else x))
  | _ => none
def qMax (ev : Operand → AVal) (args : Array Operand) : Option AVal :=
  match args.toList.map ev with
  | [.int k x, .int _ y] => some (.int k (if x < y then y else x))
  | _ => none
def qBuiltin (P : Program) (ev : Operand → AVal) (hg : HGet) (b : Builtin) (args : Array Operand) (ts : Array TypeId) : Option AVal :=
  match b with
  | .len => qLen P ev hg args ts
  | .min => qMin ev args
  | .max => qMax ev args
  | _ => none
def qCall (P : Program) (ev : Operand → AVal) (hg : HGet) (c : Call) : Option AVal :=
  match c.callee with
  | .builtin b => qBuiltin P ev hg b c.args c.argTypes
  | _ => none
def quietG (S : AStat) (ev : Operand → AVal) (hg : HGet) (o : Op) : Option AVal :=
  match o with
  | .move x => some (ev x)
  | .assign x => some (ev x)
  | .pick c a b => qPick ev c a b
  | .build t parts => qBuild S.P ev t parts
  | .load t x => loadG S.P t hg (ev x)
  | .nilCheck x => nilCheckA (ev x)
  | .binOp op t x y _ => qBin S.P ev op t x y
  | .unOp op _ x => unA op (ev x)
  | .convert s d x => qConv S.P hg s d (ev x)
  | .makeInterface t x => qIface S.P ev t x
  | .makeFunc f first captured => qFunc ev f first captured
  | .slice t x lo hi mx => qSlice S.P ev hg t x lo hi mx
  | .fieldAddr t x f => fieldAddrA S.P t (ev x) f
  | .field t x f => fieldA S.P t (ev x) f
  | .indexAddr t x i => indexAddrA S.P t (ev x) (ev i)
  | .index t x i => indexA S.P t (ev x) (ev i)
  | .lookup t m x ok => lookupG S.P t hg (ev m) (ev x) ok
  | .extract x i => qExtract ev x i
  | .call c => qCall S.P ev hg c
  | .typeAssert x _ t ok => typeAssertA S.P (ev x) t ok
  | _ => none
theorem quietG_eq (S : AStat) (ρ : List AVal) (H : Heap) (o : Op) : quietG S (evalA S ρ) (fun b => H[b]?) o = quietA S ρ H o := by
  cases o with
  | load t x => simp only [quietG, quietA, loadG, loadA, atG_eq]
  | slice t x lo hi mx => simp only [quietG, quietA, qSlice, sliceG_eq]
  | call c =>
    obtain ⟨callee, args, ts⟩ := c
    cases callee with
    | value f => rfl
    | invoke r n => rfl
    | builtin b => cases b <;> rfl
  | _ => rfl
def readsG (ev : Operand → AVal) : Op → Option Nat
  | .load _ x => blkOf (ev x)
  | .lookup _ m _ _ => blkOf (ev m)
  | .slice _ x _ _ _ => blkOf (ev x)
  | .convert _ _ x => slBlk (ev x)
  | .call { callee := .builtin .len, args := args, .. } =>
    match args[0]? with
    | some x => match ev x with
      | .mapr b => some b
      | _ => none
    | none => none
  | _ => none
theorem readsG_eq (S : AStat) (ρ : List AVal) (o : Op) : readsG (evalA S ρ) o = readsA S ρ o := by
  cases o with
  | call c =>
    obtain ⟨callee, args, ts⟩ := c
    cases callee with
    | value f => rfl
    | invoke r n => rfl
    | builtin b => cases b <;> rfl
  | _ => rfl
def touchG (S : AStat) (ev : Operand → AVal) : Op → Option (List Nat)
  | .store _ x _ => some (blkOf (ev x)).toList
  | .mapUpdate _ m _ _ => some (blkOf (ev m)).toList
  | .insert _ m _ _ => some (blkOf (ev m)).toList
  | .next x _ => some (blkOf (ev x)).toList
  | .call { callee := .builtin .append, args := args, .. } =>
    match args[0]? with
    | some x => match ev x with
      | .sl _ b _ _ _ _ => some [b]
      | _ => some []
    | none => none
  | .call { callee := .value f, .. } =>
    match ev f with
    | .fn (.func g) _ _ => if stillB S g then some [] else none
    | _ => none
  | _ => none
def touchDG (S : AStat) (ev : Operand → AVal) (op : Op) (n : Nat) (g g' : Nat → Option (Option ABlk)) : Option (List Nat) := match touchG S ev op with
  | some l => some l
  | none => some (chgA n g g')
theorem touchG_eq (S : AStat) (ρ : List AVal) (o : Op) : touchG S (evalA S ρ) o = touchA S ρ o := by
  cases o with
  | call c =>
    obtain ⟨callee, args, ts⟩ := c
    cases callee with
    | value f => rfl
    | invoke r n => rfl
    | builtin b => cases b <;> rfl
  | _ => rfl
noncomputable def evalF (S : AStat) (r : Rg) : Operand → AVal
  | .tmp t => r.get t
  | .const v => constA v
  | .global g => match S.glob g with
    | some cs => .ipt cs
    | none => .junk
  | .func f => .fn (.func f) [] []
theorem evalF_eq (S : AStat) {r : Rg} (h : r.Ok) : evalF S r = evalA S r.toL := by
  funext x
  cases x with
  | tmp t => exact (Rg.get_toL h t).symm
  | _ => rfl
theorem getF_eq {h : Hp} (ho : h.Ok) : h.get = fun b => h.toL[b]? := funext fun b => (Hp.get_toL ho b).symm
abbrev CallT := Nat → FuncId → List AVal → Hp → Option (AVal × Hp)
abbrev ExecT := Nat → Code → Rg → Hp → Option (AExit × Rg × Hp)
def CallSim (ct : CallT) (cl : CallF) : Prop := ∀ lo f args h r h', h.Ok → ct lo f args h = some (r, h') → h'.Ok ∧ cl lo f args h.toL = some (r, h'.toL)
def ExecSim (rt : ExecT) (rl : ExecF) : Prop := ∀ lo c r h x r' h', r.Ok → h.Ok → rt lo c r h = some (x, r', h') → r'.Ok ∧ h'.Ok ∧ rl lo c r.toL h.toL = some (x, r'.toL, h'.toL)
noncomputable def guardF (ops : List Oper) (r : Rg) (o : Oper) : Option Bool :=
  match o.guard with
  | none => some true
  | some (j, want) =>
    match (ops[j]?).bind (·.dst) with
    | none => some false
    | some d =>
      match r.get? d with
      | none => some false
      | some (.bool b) => some (b == want)
      | some .junk => none
      | some _ => some false
theorem guardF_eq {ops : List Oper} {r : Rg} (h : r.Ok) (o : Oper) : guardF ops r o = guardA ops r.toL o := by
  unfold guardF guardA
  cases o.guard with
  | none => rfl
  | some p =>
    obtain ⟨j, w⟩ := p
    simp only
    cases (ops[j]?).bind (·.dst) with
    | none => rfl
    | some d =>
      simp only [Rg.get?_toL h]
      rfl
noncomputable def putF (r : Rg) (dst : Option Tmp) (v : AVal) : Rg :=
  match dst with
  | some d => r.set d v
  | none => r
theorem putF_ok {r : Rg} (h : r.Ok) (dst : Option Tmp) (v : AVal) : (putF r dst v).Ok ∧ (putF r dst v).toL = putA r.toL dst v := by
  cases dst with
  | none => exact ⟨h, rfl⟩
  | some d => exact ⟨Rg.set_ok h d v, Rg.set_toL h d v⟩
noncomputable def eStore (S : AStat) (lo : Nat) (r : Rg) (h : Hp) (t : TypeId) (x v : Operand) : Option (AVal × Hp) :=
  (storeG S.P lo t h.get (evalF S r x) (evalF S r v)).bind fun e => (e.onH h).map fun h' => (undefA, h')
noncomputable def eUpdate (S : AStat) (lo : Nat) (r : Rg) (h : Hp) (t : TypeId) (m k v : Operand) : Option (AVal × Hp) :=
  (mapUpdateG S.P lo t h.get (evalF S r m) (evalF S r k) (evalF S r v)).bind fun e => (e.onH h).map fun h' => (undefA, h')
noncomputable def eAppend (S : AStat) (lo : Nat) (r : Rg) (h : Hp) (args : Array Operand) (ts : Array TypeId) : Option (AVal × Hp) :=
  match args.toList.map (evalF S r), ts.toList with
  | [s, x], [t, u] => (appendG S.P lo t u h.n h.get s x).bind fun e => (e.2.onH h).map fun h' => (e.1, h')
  | _, _ => none
noncomputable def eCall (S : AStat) (call : CallT) (lo : Nat) (r : Rg) (h : Hp) (f : Operand) (args : Array Operand) : Option (AVal × Hp) :=
  match evalF S r f with
  | .fn (.func g) first captured =>
    match S.ext g (first ++ args.toList.map (evalF S r) ++ captured) with
    | some v => some (v, h)
    | none => call lo g (first ++ args.toList.map (evalF S r) ++ captured) h
  | _ => none
noncomputable def eInvoke (S : AStat) (call : CallT) (lo : Nat) (r : Rg) (h : Hp) (x : Operand) (name : String) (args : Array Operand) : Option (AVal × Hp) :=
  match evalF S r x with
  | .iface t v =>
    match S.meth t name, nk v with
    | some g, some (.p, _) => call lo g (v :: args.toList.map (evalF S r)) h
    | _, _ => match S.methV t name v with
      | some (g, v') => (S.ext g (v' :: args.toList.map (evalF S r))).map fun y => (y, h)
      | none => none
  | _ => none
noncomputable def eBuiltin (S : AStat) (lo : Nat) (r : Rg) (h : Hp) (b : Builtin) (args : Array Operand) (ts : Array TypeId) : Option (AVal × Hp) :=
  match b with
  | .append => eAppend S lo r h args ts
  | _ => none
noncomputable def eAny (S : AStat) (call : CallT) (lo : Nat) (r : Rg) (h : Hp) (c : Call) : Option (AVal × Hp) :=
  match c.callee with
  | .builtin b => eBuiltin S lo r h b c.args c.argTypes
  | .value f => eCall S call lo r h f c.args
  | .invoke x name => eInvoke S call lo r h x name c.args
noncomputable def effF (S : AStat) (call : CallT) (lo : Nat) (r : Rg) (h : Hp) (o : Op) : Option (AVal × Hp) :=
  match o with
  | .store t x v => eStore S lo r h t x v
  | .mapUpdate t m k v => eUpdate S lo r h t m k v
  | .insert t m k v => eUpdate S lo r h t m k v
  | .call c => eAny S call lo r h c
  | _ => none
theorem ed_map {x : Option Ed} {h h' : Hp} (ho : h.Ok) {v u : AVal} (e : (x.bind fun e => (e.onH h).map fun h' => (v, h')) = some (u, h')) :
    u = v ∧ h'.Ok ∧ x.map (Ed.onL h.toL) = some h'.toL := by
  rw [Option.bind_eq_some_iff] at e
  obtain ⟨ed, rfl, e⟩ := e
  rw [Option.map_eq_some_iff] at e
  obtain ⟨h1, h2, h3⟩ := e
  simp only [Prod.mk.injEq] at h3
  obtain ⟨rfl, rfl⟩ := h3
  obtain ⟨k1, k2⟩ := Ed.on_ok ho h2
  exact ⟨rfl, k1, by simp [k2]⟩
theorem effF_ok {S : AStat} {ct : CallT} {cl : CallF} (hc : CallSim ct cl) {lo : Nat} {r : Rg} {h h' : Hp} (hr : r.Ok) (ho : h.Ok) {op : Op} {v : AVal} (e : effF S ct lo r h op = some (v, h')) :
    h'.Ok ∧ effA S cl lo r.toL h.toL op = some (v, h'.toL) := by
  unfold effF at e
  split at e
  · unfold eStore at e
    rw [evalF_eq S hr, getF_eq ho] at e
    obtain ⟨rfl, h1, h2⟩ := ed_map ho e
    rw [storeG_eq] at h2
    exact ⟨h1, by simp only [effA, h2, Option.map_some]⟩
  · unfold eUpdate at e
    rw [evalF_eq S hr, getF_eq ho] at e
    obtain ⟨rfl, h1, h2⟩ := ed_map ho e
    rw [mapUpdateG_eq] at h2
    exact ⟨h1, by simp only [effA, h2, Option.map_some]⟩
  · unfold eUpdate at e
    rw [evalF_eq S hr, getF_eq ho] at e
    obtain ⟨rfl, h1, h2⟩ := ed_map ho e
    rw [mapUpdateG_eq] at h2
    exact ⟨h1, by simp only [effA, h2, Option.map_some]⟩
  · rename_i cl
    obtain ⟨callee, args, ts⟩ := cl
    unfold eAny at e
    simp only at e
    cases callee with
    | builtin b =>
      simp only [eBuiltin] at e
      split at e <;> first | (cases e; done) | skip
      unfold eAppend at e
      rw [evalF_eq S hr, getF_eq ho] at e
      split at e
      · rename_i s x t u e1 e2
        rw [Option.bind_eq_some_iff] at e
        obtain ⟨ed, h1, e⟩ := e
        rw [Option.map_eq_some_iff] at e
        obtain ⟨h2, h3, h4⟩ := e
        simp only [Prod.mk.injEq] at h4
        obtain ⟨rfl, rfl⟩ := h4
        obtain ⟨k1, k2⟩ := Ed.on_ok ho h3
        refine ⟨k1, ?_⟩
        have := appendG_eq S.P lo t u h.toL s x
        rw [Hp.length_toL, h1] at this
        simp only [effA, e1, e2, ← this, Option.map_some, k2]
      · cases e
    | value f =>
      unfold eCall at e
      rw [evalF_eq S hr] at e
      simp only at e
      split at e
      · rename_i g first captured e1
        simp only [effA, e1]
        split at e
        · rename_i w hw
          simp only [Option.some.injEq, Prod.mk.injEq] at e
          obtain ⟨rfl, rfl⟩ := e
          exact ⟨ho, by rw [hw]⟩
        · rename_i hw
          obtain ⟨k1, k2⟩ := hc _ _ _ _ _ _ ho e
          exact ⟨k1, by rw [hw]; exact k2⟩
      · cases e
    | invoke x name =>
      unfold eInvoke at e
      rw [evalF_eq S hr] at e
      simp only at e
      split at e
      · rename_i t w e1
        simp only [effA, e1]
        split at e
        · rename_i g nb hm hn
          obtain ⟨k1, k2⟩ := hc _ _ _ _ _ _ ho e
          exact ⟨k1, by rw [hm, hn]; exact k2⟩
        · rename_i hne
          split at e
          · rename_i g w1 hm
            rw [Option.map_eq_some_iff] at e
            obtain ⟨y, h1, h2⟩ := e
            simp only [Prod.mk.injEq] at h2
            obtain ⟨rfl, rfl⟩ := h2
            refine ⟨ho, ?_⟩
            split
            · rename_i h3 h4
              exact (hne _ _ h3 h4).elim
            · rw [hm]
              simp only [h1, Option.map_some]
          · cases e
      · cases e
  · cases e
noncomputable def opF (S : AStat) (call : CallT) (lo : Nat) (r : Rg) (h : Hp) (o : Oper) : Option (AVal × Hp) :=
  match quietG S (evalF S r) h.get o.op with
  | some v => some (v, h)
  | none =>
    match newG S (evalF S r) o.op with
    | some (blk, mk) => (h.push (some blk)).map fun h' => (mk h.n, h')
    | none => effF S call lo r h o.op
theorem opF_ok {S : AStat} {ct : CallT} {cl : CallF} (hc : CallSim ct cl) {lo : Nat} {r : Rg} {h h' : Hp} (hr : r.Ok) (ho : h.Ok) {o : Oper} {v : AVal} (e : opF S ct lo r h o = some (v, h')) :
    h'.Ok ∧ opA S cl lo r.toL h.toL o = some (v, h'.toL) := by
  unfold opF at e
  unfold opA
  rw [← quietG_eq, ← newG_eq, ← evalF_eq S hr, ← getF_eq ho]
  split at e
  · rename_i w hw
    simp only [Option.some.injEq, Prod.mk.injEq] at e
    obtain ⟨rfl, rfl⟩ := e
    exact ⟨ho, by rw [hw]⟩
  · rename_i hw
    simp only [hw]
    split at e
    · rename_i blk mk hn
      rw [Option.map_eq_some_iff] at e
      obtain ⟨h1, h2, h3⟩ := e
      simp only [Prod.mk.injEq] at h3
      obtain ⟨rfl, rfl⟩ := h3
      obtain ⟨k1, k2⟩ := Hp.push_ok ho h2
      exact ⟨k1, by simp only [hn, k2, Hp.length_toL]⟩
    · rename_i hn
      obtain ⟨k1, k2⟩ := effF_ok hc hr ho e
      exact ⟨k1, by simp only [hn, k2]⟩
noncomputable def opsF (S : AStat) (call : CallT) (lo : Nat) (ops : List Oper) : List Oper → Rg → Hp → Option (Rg × Hp)
  | [], r, h => some (r, h)
  | o :: rest, r, h =>
    match guardF ops r o with
    | none => none
    | some false => opsF S call lo ops rest (putF r o.dst undefA) h
    | some true =>
      match opF S call lo r h o with
      | none => none
      | some (v, h') => opsF S call lo ops rest (putF r o.dst v) h'
theorem opsF_ok {S : AStat} {ct : CallT} {cl : CallF} (hc : CallSim ct cl) {lo : Nat} {ops : List Oper} : ∀ {l : List Oper} {r r' : Rg} {h h' : Hp}, r.Ok → h.Ok → opsF S ct lo ops l r h = some (r', h') →
    r'.Ok ∧ h'.Ok ∧ opsA S cl lo ops l r.toL h.toL = some (r'.toL, h'.toL)
  | [], r, r', h, h', hr, ho, e => by
    simp only [opsF, Option.some.injEq, Prod.mk.injEq] at e
    obtain ⟨rfl, rfl⟩ := e
    exact ⟨hr, ho, rfl⟩
  | o :: l, r, r', h, h', hr, ho, e => by
    simp only [opsF, guardF_eq hr] at e
    simp only [opsA]
    split at e
    · cases e
    · rename_i hg
      obtain ⟨k1, k2⟩ := putF_ok hr o.dst undefA
      simp only [hg]
      rw [← k2]
      exact opsF_ok hc k1 ho e
    · rename_i hg
      simp only [hg]
      split at e
      · cases e
      · rename_i v h1 hop
        obtain ⟨m1, m2⟩ := opF_ok hc hr ho hop
        obtain ⟨k1, k2⟩ := putF_ok hr o.dst v
        simp only [m2]
        rw [← k2]
        exact opsF_ok hc k1 m1 e
noncomputable def hideF (h : Hp) : List Nat → Hp
  | [] => h
  | b :: bs => hideF (h.set b none) bs
noncomputable def unhideF (h0 h : Hp) : List Nat → Hp
  | [] => h
  | b :: bs => unhideF h0 (h.set b ((h0.get b).getD none)) bs
theorem hideF_ok : ∀ (bs : List Nat) {h : Hp}, h.Ok → (hideF h bs).Ok ∧ (hideF h bs).toL = hide h.toL bs
  | [], _, ho => ⟨ho, rfl⟩
  | b :: bs, h, ho => by
    have := hideF_ok bs (Hp.set_ok ho b none)
    rw [Hp.set_toL ho] at this
    exact this
theorem unhideF_ok {h0 : Hp} (h0o : h0.Ok) : ∀ (bs : List Nat) {h : Hp}, h.Ok → (unhideF h0 h bs).Ok ∧ (unhideF h0 h bs).toL = unhide h0.toL h.toL bs
  | [], _, ho => ⟨ho, rfl⟩
  | b :: bs, h, ho => by
    have := unhideF_ok h0o bs (Hp.set_ok ho b ((h0.get b).getD none))
    rw [Hp.set_toL ho] at this
    refine ⟨this.1, ?_⟩
    show (unhideF h0 (h.set b ((h0.get b).getD none)) bs).toL = unhide h0.toL (h.toL.set b (h0.toL.getD b none)) bs
    rw [this.2, List.getD_eq_getElem?_getD, Hp.get_toL h0o]
structure DrawOutF where
  reads : List (Nat × Nat)
  touches : List (Nat × Option (List Nat))
  r : Rg
  h : Hp
noncomputable def drawGoF (S : AStat) (call : CallT) (lo n0 : Nat) (ops : Array Oper) (B : List Nat) : List Oper → Nat → Rg → Hp → Option DrawOutF
  | [], _, r, h => some ⟨[], [], r, h⟩
  | o :: rest, k, r, h =>
    match guardF ops.toList r o with
    | none => none
    | some false => drawGoF S call lo n0 ops B rest (k + 1) (putF r o.dst undefA) h
    | some true =>
      if isNewB o.op then
        match newG S (evalF S r) o.op with
        | none => none
        | some (blk, mk) =>
          match h.get (n0 + k) with
          | some none => drawGoF S call lo n0 ops B rest (k + 1) (putF r o.dst (mk (n0 + k))) (h.set (n0 + k) (some blk))
          | _ => none
      else if isEffB o.op then
        match effF S call lo r (hideF h (hidden ops B n0 k)) o.op with
        | none => none
        | some (v, h') =>
          if h.n ≤ h'.n then
            match drawGoF S call lo n0 ops B rest (k + 1) (putF r o.dst v) (unhideF h h' (hidden ops B n0 k)) with
            | none => none
            | some x => some { x with touches := (k, touchDG S (evalF S r) o.op (hideF h (hidden ops B n0 k)).n (hideF h (hidden ops B n0 k)).get h'.get) :: x.touches }
          else none
      else
        match quietG S (evalF S r) h.get o.op with
        | none => none
        | some v =>
          match drawGoF S call lo n0 ops B rest (k + 1) (putF r o.dst v) h with
          | none => none
          | some x =>
            match readsG (evalF S r) o.op with
            | none => some x
            | some b => some { x with reads := (k, b) :: x.reads }
def DrawOutF.Ok (x : DrawOutF) : Prop := x.r.Ok ∧ x.h.Ok
noncomputable def DrawOutF.toL (x : DrawOutF) : DrawOut := ⟨x.reads, x.touches, x.r.toL, x.h.toL⟩
theorem drawGoF_ok {S : AStat} {ct : CallT} {cl : CallF} (hc : CallSim ct cl) {lo n0 : Nat} {ops : Array Oper} {B : List Nat} : ∀ {l : List Oper} {k : Nat} {r : Rg} {h : Hp} {x : DrawOutF}, r.Ok → h.Ok → drawGoF S ct lo n0 ops B l k r h = some x →
    x.Ok ∧ drawGo S cl lo n0 ops B l k r.toL h.toL = some x.toL
  | [], k, r, h, x, hr, ho, e => by
    simp only [drawGoF, Option.some.injEq] at e
    subst e
    exact ⟨⟨hr, ho⟩, rfl⟩
  | o :: l, k, r, h, x, hr, ho, e => by
    simp only [drawGoF, guardF_eq hr] at e
    simp only [drawGo]
    split at e
    · cases e
    · rename_i hg
      obtain ⟨k1, k2⟩ := putF_ok hr o.dst undefA
      simp only [hg]
      rw [← k2]
      exact drawGoF_ok hc k1 ho e
    · rename_i hg
      simp only [hg]
      split at e
      · rename_i hn
        rw [if_pos hn]
        split at e
        · cases e
        · rename_i blk mk hnew
          rw [evalF_eq S hr, newG_eq] at hnew
          simp only [hnew]
          rw [Hp.get_toL ho]
          split at e
          · rename_i hh
            simp only [hh]
            obtain ⟨k1, k2⟩ := putF_ok hr o.dst (mk (n0 + k))
            rw [← k2, ← Hp.set_toL ho]
            exact drawGoF_ok hc k1 (Hp.set_ok ho _ _) e
          · cases e
      · rename_i hn
        rw [if_neg hn]
        split at e
        · rename_i he
          rw [if_pos he]
          split at e
          · cases e
          · rename_i v h1 heff
            obtain ⟨g1, g2⟩ := hideF_ok (hidden ops B n0 k) ho
            obtain ⟨g3, g4⟩ := effF_ok hc hr g1 heff
            rw [g2] at g4
            simp only [g4]
            split at e
            · rename_i hle
              rw [if_pos (by rw [Hp.length_toL, Hp.length_toL]; exact hle)]
              split at e
              · cases e
              · rename_i x1 hx1
                simp only [Option.some.injEq] at e
                subst e
                obtain ⟨g5, g6⟩ := unhideF_ok ho (hidden ops B n0 k) g3
                obtain ⟨k1, k2⟩ := putF_ok hr o.dst v
                obtain ⟨g7, g8⟩ := drawGoF_ok hc k1 g5 hx1
                rw [k2, g6] at g8
                refine ⟨g7, ?_⟩
                simp only [g8, DrawOutF.toL]
                rw [show touchDG S (evalF S r) o.op (hideF h (hidden ops B n0 k)).n (hideF h (hidden ops B n0 k)).get h1.get = touchD S r.toL o.op (hide h.toL (hidden ops B n0 k)) h1.toL by
                  unfold touchDG touchD
                  rw [evalF_eq S hr, touchG_eq, getF_eq g1, getF_eq g3, g2, ← Hp.length_toL (h := hideF h (hidden ops B n0 k)), g2]
                  cases touchA S r.toL o.op <;> rfl]
            · cases e
        · rename_i he
          rw [if_neg he]
          split at e
          · cases e
          · rename_i v hq
            rw [evalF_eq S hr, getF_eq ho, quietG_eq] at hq
            simp only [hq]
            split at e
            · cases e
            · rename_i x1 hx1
              obtain ⟨k1, k2⟩ := putF_ok hr o.dst v
              obtain ⟨g7, g8⟩ := drawGoF_ok hc k1 ho hx1
              rw [k2] at g8
              simp only [g8]
              rw [evalF_eq S hr, readsG_eq] at e
              split at e
              · rename_i hrd
                simp only [Option.some.injEq] at e
                subst e
                exact ⟨g7, by simp only [hrd]⟩
              · rename_i b hrd
                simp only [Option.some.injEq] at e
                subst e
                exact ⟨g7, by simp only [hrd, DrawOutF.toL]⟩
noncomputable def drawF (S : AStat) (call : CallT) (lo : Nat) (ops : Array Oper) (r : Rg) (h : Hp) : Option (Rg × Hp) :=
  let B := befs ops.toList []
  if regionOk ops B && decide (lo ≤ h.n) then
    match (if ops.any (fun o => isNewB o.op) then h.more ops.size else some h) with
    | none => none
    | some h1 =>
      match drawGoF S call lo h.n ops B ops.toList 0 r h1 with
      | none => none
      | some x => if apartB B x.reads x.touches then some (x.r, x.h) else none
  else none
theorem drawF_ok {S : AStat} {ct : CallT} {cl : CallF} (hc : CallSim ct cl) {lo : Nat} {ops : Array Oper} {r r' : Rg} {h h' : Hp} (hr : r.Ok) (ho : h.Ok) (e : drawF S ct lo ops r h = some (r', h')) :
    r'.Ok ∧ h'.Ok ∧ drawA S cl lo ops r.toL h.toL = some (r'.toL, h'.toL) := by
  unfold drawF at e
  unfold drawA
  simp only at e ⊢
  split at e
  · rename_i hcond
    rw [Hp.length_toL, if_pos hcond]
    split at e
    · cases e
    · rename_i h1 hh1
      have key : h1.Ok ∧ h1.toL = (if ops.any (fun o => isNewB o.op) then h.toL ++ List.replicate ops.size none else h.toL) := by
        split at hh1
        · rename_i ha
          rw [if_pos ha]
          exact Hp.more_ok ho hh1
        · rename_i ha
          rw [if_neg ha]
          simp only [Option.some.injEq] at hh1
          subst hh1
          exact ⟨ho, rfl⟩
      rw [← key.2]
      split at e
      · cases e
      · rename_i x hx
        obtain ⟨⟨k1, k2⟩, k3⟩ := drawGoF_ok hc hr key.1 hx
        simp only [k3]
        split at e
        · rename_i ha
          simp only [Option.some.injEq, Prod.mk.injEq] at e
          obtain ⟨rfl, rfl⟩ := e
          exact ⟨k1, k2, if_pos ha⟩
        · cases e
  · cases e
def frzG (n0 : Nat) (hg : HGet) : Bool → Nat → AVal → Option AVal
  | _, 0, _ => none
  | top, k + 1, a =>
    match a with
    | .agg cs => (frzs (frzG n0 hg top k) cs).map .agg
    | .tup cs => (frzs (frzG n0 hg top k) cs).map .tup
    | .iface t v => (frzG n0 hg top k v).map (.iface t)
    | .fn f x y => match frzs (frzG n0 hg top k) x, frzs (frzG n0 hg top k) y with
      | some x', some y' => some (.fn f x' y')
      | _, _ => none
    | .ptr b off =>
      if b < n0 then (if top then some (.ptr b off) else none) else
      match hg b with
      | some (some (.cells cs)) => (frzs (frzG n0 hg false k) (cs.drop off)).map .ipt
      | _ => none
    | .sl sz b off len cap ex =>
      if b < n0 then (if top then some (.sl sz b off len cap ex) else none) else
      match hg b with
      | some (some (.cells cs)) =>
        if off + len * sz ≤ cs.length then (frzss (frzG n0 hg false k) (chunk sz len (cs.drop off))).map fun rows => .list sz rows (ex && cap == len) else none
      | _ => none
    | .mapr b => if b < n0 ∧ top then some (.mapr b) else none
    | a => some a
theorem frzG_eq (n0 : Nat) (H : Heap) : ∀ (k : Nat) (top : Bool), frzG n0 (fun b => H[b]?) top k = frz n0 H top k
  | 0, top => by funext a; simp only [frzG, frz]
  | k + 1, top => by
    funext a
    cases a <;> simp only [frzG, frz, frzG_eq n0 H k top, frzG_eq n0 H k false] <;> rfl
def resultG (S : AStat) (ev : Nat → AVal) (hg : HGet) : ResultVar → Option AVal
  | .tmp t => some (ev t)
  | .cell a t => loadG S.P t hg (ev a)
def resultsG (S : AStat) (ev : Nat → AVal) (hg : HGet) : List ResultVar → Option (List AVal)
  | [] => some []
  | r :: rs =>
    match resultG S ev hg r with
    | none => none
    | some v => match resultsG S ev hg rs with
      | none => none
      | some vs => some (v :: vs)
theorem resultsG_eq (S : AStat) {r : Rg} (hr : r.Ok) {h : Hp} (ho : h.Ok) : ∀ l, resultsG S r.get h.get l = resultsA S r.toL h.toL l
  | [] => rfl
  | x :: xs => by
    have : resultG S r.get h.get x = resultA S r.toL h.toL x := by
      cases x with
      | tmp t => simp only [resultG, resultA, Rg.get_toL hr]
      | cell a t => simp only [resultG, resultA, Rg.get_toL hr, getF_eq ho, loadG, loadA, atG_eq]
    simp only [resultsG, resultsA, this, resultsG_eq S hr ho xs]
    rfl
def Pol.loN (p : Pol) (lo n : Nat) : Nat :=
  match p with
  | .keep => lo
  | .pure => n
  | .fresh => max lo n
noncomputable def finishF (p : Pol) (h0 : Hp) (v : AVal) (h : Hp) : Option (AVal × Hp) :=
  match p with
  | .keep => some (v, h)
  | .pure => (frzG h0.n h.get true 64 v).map fun v' => (v', h0)
  | .fresh => some (v, h)
theorem finishF_ok {p : Pol} {h0 h h' : Hp} {v r : AVal} (ho0 : h0.Ok) (ho : h.Ok) (e : finishF p h0 v h = some (r, h')) : h'.Ok ∧ finish p h0.toL v h.toL = some (r, h'.toL) := by
  cases p with
  | keep =>
    simp only [finishF, Option.some.injEq, Prod.mk.injEq] at e
    obtain ⟨rfl, rfl⟩ := e
    exact ⟨ho, rfl⟩
  | pure =>
    simp only [finishF] at e
    rw [Option.map_eq_some_iff] at e
    obtain ⟨v, e1, e2⟩ := e
    simp only [Prod.mk.injEq] at e2
    obtain ⟨rfl, rfl⟩ := e2
    rw [getF_eq ho, frzG_eq, ← Hp.length_toL] at e1
    exact ⟨ho0, by simp only [finish, e1, Option.map_some]⟩
  | fresh =>
    simp only [finishF, Option.some.injEq, Prod.mk.injEq] at e
    obtain ⟨rfl, rfl⟩ := e
    exact ⟨ho, rfl⟩
abbrev HookT := Nat → List AVal → Hp → Option (AVal × Hp)
noncomputable def callF (S : AStat) (HT : FuncId → Option HookT) (rec : ExecT) : CallT := fun lo f args h =>
  match HT f with
  | some hk => hk lo args h
  | none =>
    match S.P.funcs[f]? with
    | none => none
    | some fn =>
      match fn.body with
      | none => none
      | some body =>
        bif Nat.ble args.length fn.ntmps && Nat.ble fn.ntmps 512 then
          match rec ((S.pol f).loN lo h.n) body (Rg.frame args fn.ntmps) h with
          | none => none
          | some (.exit _, _, _) => none
          | some (_, r, h') =>
            match resultsG S r.get h'.get fn.results.toList with
            | none => none
            | some vs => finishF (S.pol f) h (tupled vs) h'
        else none
def HookSim (S : AStat) (HT : FuncId → Option HookT) : Prop := ∀ f, match HT f, S.hook f with
  | none, none => True
  | some t, some l => ∀ lo args h r h', h.Ok → t lo args h = some (r, h') → h'.Ok ∧ l lo args h.toL = some (r, h'.toL)
  | _, _ => False
theorem callF_ok {S : AStat} {HT : FuncId → Option HookT} (hH : HookSim S HT) {rt : ExecT} {rl : ExecF} (hs : ExecSim rt rl) : CallSim (callF S HT rt) (callA S rl) := by
  intro lo f args h r h' ho e
  unfold callF at e
  unfold callA
  have hf := hH f
  split at e
  · rename_i hk hhk
    rw [hhk] at hf
    cases hl : S.hook f with
    | none => rw [hl] at hf; exact hf.elim
    | some l =>
      rw [hl] at hf
      exact hf lo args h r h' ho e
  · rename_i hhk
    rw [hhk] at hf
    cases hl : S.hook f with
    | some l => rw [hl] at hf; exact hf.elim
    | none =>
      simp only
      split at e
      · cases e
      · rename_i fn hfn
        simp only [hfn]
        split at e
        · cases e
        · rename_i body hb
          simp only [hb]
          cases hcond : (Nat.ble args.length fn.ntmps && Nat.ble fn.ntmps 512) with
          | false => rw [hcond] at e; cases e
          | true =>
            rw [hcond] at e
            simp only [cond_true] at e
            simp only [Bool.and_eq_true, Nat.ble_eq] at hcond
            split at e
            · cases e
            · cases e
            · rename_i x r1 h1 hne hrec
              obtain ⟨k1, k2, k3⟩ := hs _ _ _ _ _ _ _ (frame_ok args fn.ntmps hcond.2) ho hrec
              rw [frame_toL args fn.ntmps hcond.2 hcond.1] at k3
              have hlo : (S.pol f).loN lo h.n = (S.pol f).lo lo h.toL := by
                cases S.pol f <;> simp only [Pol.loN, Pol.lo, Hp.length_toL]
              rw [hlo] at k3
              simp only [k3]
              rw [resultsG_eq S k1 k2] at e
              cases x with
              | exit i => exact (hne i rfl).elim
              | normal =>
                split at e
                · cases e
                · rename_i vs hvs
                  simp only [hvs]
                  exact finishF_ok ho k2 e
              | ret =>
                split at e
                · cases e
                · rename_i vs hvs
                  simp only [hvs]
                  exact finishF_ok ho k2 e
noncomputable def stSeq (rec : ExecT) (lo : Nat) (a b : Code) (r : Rg) (h : Hp) : Option (AExit × Rg × Hp) :=
  match rec lo a r h with
  | some (.normal, r', h') => rec lo b r' h'
  | x => x
noncomputable def stCond (S : AStat) (rec : ExecT) (lo : Nat) (x : Operand) (a b : Code) (r : Rg) (h : Hp) : Option (AExit × Rg × Hp) :=
  match evalF S r x with
  | .bool true => rec lo a r h
  | .bool false => rec lo b r h
  | _ => none
noncomputable def stBlock (rec : ExecT) (lo id : Nat) (b : Code) (r : Rg) (h : Hp) : Option (AExit × Rg × Hp) :=
  match rec lo b r h with
  | some (.exit i, r', h') => if i = id then some (.normal, r', h') else some (.exit i, r', h')
  | x => x
noncomputable def stLoop (rec : ExecT) (lo : Nat) (b : Code) (r : Rg) (h : Hp) : Option (AExit × Rg × Hp) :=
  match rec lo b r h with
  | some (.normal, r', h') => rec lo (.loop b) r' h'
  | x => x
noncomputable def stRegion (S : AStat) (HT : FuncId → Option HookT) (rec : ExecT) (lo : Nat) (ops : Array Oper) (draw : Bool) (r : Rg) (h : Hp) : Option (AExit × Rg × Hp) :=
  if draw then (drawF S (callF S HT rec) lo ops r h).map fun x => (.normal, x.1, x.2)
  else (opsF S (callF S HT rec) lo ops.toList ops.toList r h).map fun x => (.normal, x.1, x.2)
noncomputable def stepF (S : AStat) (HT : FuncId → Option HookT) (rec : ExecT) : ExecT := fun lo c r h =>
  match c with
  | .skip => some (.normal, r, h)
  | .label _ => some (.normal, r, h)
  | .ret => some (.ret, r, h)
  | .exit id => some (.exit id, r, h)
  | .seq a b => stSeq rec lo a b r h
  | .cond x a b => stCond S rec lo x a b r h
  | .block id b => stBlock rec lo id b r h
  | .loop b => stLoop rec lo b r h
  | .region _ ops draw => stRegion S HT rec lo ops draw r h
  | _ => none
theorem stepF_ok {S : AStat} {HT : FuncId → Option HookT} (hH : HookSim S HT) {rt : ExecT} {rl : ExecF} (hs : ExecSim rt rl) : ExecSim (stepF S HT rt) (stepA S rl) := by
  intro lo c r h x r' h' hr ho e
  have triv : ∀ {y : AExit}, some (y, r, h) = some (x, r', h') → r'.Ok ∧ h'.Ok ∧ (some (y, r.toL, h.toL) : Option (AExit × List AVal × Heap)) = some (x, r'.toL, h'.toL) := by
    intro y hy
    simp only [Option.some.injEq, Prod.mk.injEq] at hy
    obtain ⟨rfl, rfl, rfl⟩ := hy
    exact ⟨hr, ho, rfl⟩
  unfold stepF at e
  unfold stepA
  split at e
  · exact triv e
  · exact triv e
  · exact triv e
  · exact triv e
  · rename_i a b
    unfold stSeq at e
    simp only
    split at e
    · rename_i r1 h1 e1
      obtain ⟨k1, k2, k3⟩ := hs _ _ _ _ _ _ _ hr ho e1
      simp only [k3]
      exact hs _ _ _ _ _ _ _ k1 k2 e
    · rename_i hne
      obtain ⟨k1, k2, k3⟩ := hs _ _ _ _ _ _ _ hr ho e
      refine ⟨k1, k2, ?_⟩
      simp only [k3]
      cases x with
      | normal => exact (hne _ _ e).elim
      | _ => rfl
  · rename_i y a b
    unfold stCond at e
    rw [evalF_eq S hr] at e
    simp only
    split at e
    · rename_i hy
      simp only [hy]
      exact hs _ _ _ _ _ _ _ hr ho e
    · rename_i hy
      simp only [hy]
      exact hs _ _ _ _ _ _ _ hr ho e
    · cases e
  · rename_i id b
    unfold stBlock at e
    simp only
    split at e
    · rename_i i r1 h1 e1
      obtain ⟨k1, k2, k3⟩ := hs _ _ _ _ _ _ _ hr ho e1
      simp only [k3]
      split at e
      · rename_i hi
        simp only [Option.some.injEq, Prod.mk.injEq] at e
        obtain ⟨rfl, rfl, rfl⟩ := e
        exact ⟨k1, k2, by rw [if_pos hi]⟩
      · rename_i hi
        simp only [Option.some.injEq, Prod.mk.injEq] at e
        obtain ⟨rfl, rfl, rfl⟩ := e
        exact ⟨k1, k2, by rw [if_neg hi]⟩
    · rename_i hne
      obtain ⟨k1, k2, k3⟩ := hs _ _ _ _ _ _ _ hr ho e
      refine ⟨k1, k2, ?_⟩
      simp only [k3]
      cases x with
      | exit i => exact (hne _ _ _ e).elim
      | _ => rfl
  · rename_i b
    unfold stLoop at e
    simp only
    split at e
    · rename_i r1 h1 e1
      obtain ⟨k1, k2, k3⟩ := hs _ _ _ _ _ _ _ hr ho e1
      simp only [k3]
      exact hs _ _ _ _ _ _ _ k1 k2 e
    · rename_i hne
      obtain ⟨k1, k2, k3⟩ := hs _ _ _ _ _ _ _ hr ho e
      refine ⟨k1, k2, ?_⟩
      simp only [k3]
      cases x with
      | normal => exact (hne _ _ e).elim
      | _ => rfl
  · rename_i id ops draw
    unfold stRegion at e
    simp only
    split at e
    · rename_i hd
      rw [Option.map_eq_some_iff] at e
      obtain ⟨⟨r1, h1⟩, e1, e2⟩ := e
      simp only [Prod.mk.injEq] at e2
      obtain ⟨rfl, rfl, rfl⟩ := e2
      obtain ⟨k1, k2, k3⟩ := drawF_ok (callF_ok hH hs) hr ho e1
      exact ⟨k1, k2, by rw [if_pos hd, k3]; rfl⟩
    · rename_i hd
      rw [Option.map_eq_some_iff] at e
      obtain ⟨⟨r1, h1⟩, e1, e2⟩ := e
      simp only [Prod.mk.injEq] at e2
      obtain ⟨rfl, rfl, rfl⟩ := e2
      obtain ⟨k1, k2, k3⟩ := opsF_ok (callF_ok hH hs) hr ho e1
      exact ⟨k1, k2, by rw [if_neg hd, k3]; rfl⟩
  · cases e
noncomputable def execF (S : AStat) (HT : FuncId → Option HookT) (n : Nat) : ExecT := Nat.rec (fun _ _ _ _ => none) (fun _ ih => stepF S HT ih) n
theorem execF_ok {S : AStat} {HT : FuncId → Option HookT} (hH : HookSim S HT) : ∀ n, ExecSim (execF S HT n) (execA S n)
  | 0 => fun _ _ _ _ _ _ _ _ _ e => by cases e
  | n + 1 => stepF_ok hH (execF_ok hH n)
end Go.Am

/- A call that was run where nothing is one's own serves wherever its arguments lead to nothing of one's own: what was there stays. Generic: over any program. -/
namespace Go.Am
open Go.RowKit
mutual
def AVal.bare : AVal → Bool
  | .agg cs => baresA cs
  | .tup cs => baresA cs
  | .iface _ v => v.bare
  | .fn _ x y => baresA x && baresA y
  | .ptr _ _ => false
  | .sl _ _ _ _ _ _ => false
  | .mapr _ => false
  | _ => true
def baresA : List AVal → Bool
  | [] => true
  | a :: as => a.bare && baresA as
end
mutual
theorem bare_V {c c' : Cx} (h : Ext c.pure c'.pure) : ∀ (a : AVal) (v : Value), a.bare = true → V c a v → V c' a v
  | .bool b, v, _, hv => by simpa [V] using hv
  | .int k n, v, _, hv => by simpa [V] using hv
  | .str s, v, _, hv => by simpa [V] using hv
  | .agg cs, v, hb, hv => by
    simp only [V] at hv ⊢
    obtain ⟨vs, e, h1⟩ := hv
    exact ⟨vs, e, bares_V h cs vs hb h1⟩
  | .nilp, v, _, hv => by simpa [V] using hv
  | .ptr _ _, _, hb, _ => by simp [AVal.bare] at hb
  | .ipt cs, v, _, hv => by
    simp only [V] at hv ⊢
    obtain ⟨B, off, vs, e, hI, ha, hvs⟩ := hv
    exact ⟨B, off, vs, e, h.I _ hI, At.ext h hI ha, Vs_ext h cs vs hvs⟩
  | .eptr id cs, v, _, hv => by
    simp only [V] at hv ⊢
    obtain ⟨B, o, vs, hn, e1, e, hI, ha, hvs, ca, ta, hc⟩ := hv
    have ht : c'.θ = c.θ := h.θ
    rw [ht]
    exact ⟨B, o, vs, hn, e1, e, h.I _ hI, At.ext h hI ha, Vs_ext h cs vs hvs, ca, ta, by rw [show c'.w.heap[B]? = c.w.heap[B]? from h.kept _ hI]; exact hc⟩
  | .hnd b off, v, _, hv => by simpa [V] using hv
  | .nils, v, _, hv => by simpa [V] using hv
  | .list sz rows ex, v, _, hv => by
    simp only [V] at hv ⊢
    obtain ⟨a, cap, vs, e, hc, hx, hm, hvs⟩ := hv
    exact ⟨a, cap, vs, e, hc, hx, hm.imp_right fun k => ⟨k.1, h.I _ k.2.1, At.ext h k.2.1 k.2.2⟩, Vss_ext h sz rows vs hvs⟩
  | .sl _ _ _ _ _ _, _, hb, _ => by simp [AVal.bare] at hb
  | .nilm, v, _, hv => by simpa [V] using hv
  | .mapr _, _, hb, _ => by simp [AVal.bare] at hb
  | .fn f x y, v, hb, hv => by
    simp only [AVal.bare, Bool.and_eq_true] at hb
    simp only [V] at hv ⊢
    obtain ⟨vs, us, e, h1, h2⟩ := hv
    exact ⟨vs, us, e, bares_V h x vs hb.1 h1, bares_V h y us hb.2 h2⟩
  | .nilf, v, _, hv => by simpa [V] using hv
  | .iface t a, v, hb, hv => by
    simp only [V] at hv ⊢
    obtain ⟨u, e, hu⟩ := hv
    exact ⟨u, e, bare_V h a u hb hu⟩
  | .nili, v, _, hv => by simpa [V] using hv
  | .tup cs, v, hb, hv => by
    simp only [V] at hv ⊢
    obtain ⟨vs, e, h1⟩ := hv
    exact ⟨vs, e, bares_V h cs vs hb h1⟩
  | .junk, v, _, _ => by simp [V]
theorem bares_V {c c' : Cx} (h : Ext c.pure c'.pure) : ∀ (as : List AVal) (vs : List Value), baresA as = true → Vs c as vs → Vs c' as vs
  | [], vs, _, hv => by simpa [Vs] using hv
  | a :: as, vs, hb, hv => by
    simp only [baresA, Bool.and_eq_true] at hb
    simp only [Vs] at hv ⊢
    obtain ⟨v, us, e, h1, h2⟩ := hv
    exact ⟨v, us, e, bare_V h a v hb.1 h1, bares_V h as us hb.2 h2⟩
end
theorem pure_rel {c : Cx} {H : Heap} (hR : Rel c H) : Rel c.pure [] where
  blk := fun b blk h => by simp at h
  inj := fun b b' blk blk' B base base' h => by simp at h
  fresh := fun _ _ => rfl
  lt := hR.lt
theorem pure_pure (c : Cx) : Ext c.pure c.pure.pure := ⟨(fun _ _ h => by cases h), rfl, fun _ h => h, fun _ _ => rfl, fun _ _ _ h => h⟩
theorem glob_pure {S : AStat} {c : Cx} (hG : GlobOk S c) : GlobOk S c.pure := ⟨fun g cs hg => bare_V (pure_pure c) _ _ rfl (hG.v g cs hg), hG.t⟩
theorem pure_back {c : Cx} {H : Heap} (hR : Rel c H) {c1 : Cx} {H1 : Heap} (hT : Tr c.pure [] c1 H1) (hR1 : Rel c1 H1) (lo : Nat) {r : AVal} {v : Value} (hb : r.bare = true) (hv : V c1 r v) :
    ∃ c', c'.w = c1.w ∧ Rel c' H ∧ Tr c H c' H ∧ Low lo c H c' H ∧ V c' r v := by
  have hframe : ∀ B, B < c.w.heap.size → c1.w.heap[B]? = c.w.heap[B]? := fun B hB => hT.frame B hB (fun ⟨b, blk, base, h, _⟩ => by simp at h)
  let c' : Cx := { c with w := c1.w, I := fun B => c.I B ∨ (c.w.heap.size ≤ B ∧ c1.I B) }
  have hext : Ext c c' := ⟨fun _ _ h => h, rfl, fun _ h => .inl h, fun B hB => hframe B (hR.lt B hB), fun B t n h => by
    have hlt : B < c.w.heap.size := by
      rcases Nat.lt_or_ge B c.w.heap.size with h1 | h1
      · exact h1
      · simp [World.shape?, Array.getElem?_eq_none h1] at h
    show c1.w.shape? B = _
    rw [shape_of_block (w := c.w) (hframe B hlt)]
    exact h⟩
  refine ⟨c', rfl, ⟨?_, hR.inj, hR.fresh, ?_⟩, ⟨hext, hT.size, fun B hB _ => hframe B hB, fun B _ h => h, ?_, hT.os, hT.tape, hT.output⟩, ⟨?_, fun _ _ h => h, Nat.le_refl _⟩, ?_⟩
  · intro b blk hb
    obtain ⟨B, base, h1, h2, h3, h4⟩ := hR.blk b blk hb
    refine ⟨B, base, h1, ?_, Nat.lt_of_lt_of_le h3 hT.size, h4.ext hext (hframe B h3)⟩
    rintro (h | ⟨h, _⟩)
    · exact h2 h
    · omega
  · rintro B (h | ⟨_, h⟩)
    · exact Nat.lt_of_lt_of_le (hR.lt B h) hT.size
    · exact hR1.lt B h
  · rintro B hB (h | ⟨h, _⟩)
    · exact .inl h
    · omega
  · intro b blk _ hH
    refine ⟨hH, fun B base hi => ?_⟩
    obtain ⟨B', base', h1, _, h2, _⟩ := hR.blk b blk hH
    rw [hi] at h1
    simp only [Option.some.injEq, Prod.mk.injEq] at h1
    obtain ⟨rfl, rfl⟩ := h1
    exact hframe _ h2
  · refine bare_V (c := c1) (c' := c') ⟨(fun _ _ h => by cases h), hT.ext.θ.symm, ?_, fun _ _ => rfl, fun _ _ _ h => h⟩ r v hb hv
    intro B hB
    rcases Nat.lt_or_ge B c.w.heap.size with h | h
    · rcases hT.imm B h hB with h1 | ⟨b, blk, base, h1, _⟩
      · exact .inl h1
      · simp at h1
    · exact .inr ⟨h, hB⟩
theorem lift_bare {S : AStat} {f : FuncId} {av : List AVal} {r : AVal} (ha : baresA av = true) (hr : r.bare = true)
    (h : ∀ c vs, Rel c [] → GlobOk S c → Vs c av vs → ∃ H1, Calls S.P f vs.toArray c.w (CallPost 0 c [] r H1)) :
    ∀ lo c H vs, Rel c H → GlobOk S c → Vs c av vs → Calls S.P f vs.toArray c.w (CallPost lo c H r H) := by
  intro lo c H vs hR hG hv
  obtain ⟨H1, h1⟩ := h c.pure vs (pure_rel hR) (glob_pure hG) (bares_V (pure_pure c) _ _ ha hv)
  refine h1.mono fun e w' hp => ?_
  obtain ⟨v, c1, rfl, rfl, g1, g2, _, g3⟩ := hp
  obtain ⟨c', e1, k1, k2, k3, k4⟩ := pure_back hR g2 g1 lo hr g3
  exact ⟨v, c', rfl, e1, k1, k2, k3, k4⟩
end Go.Am

/- The shelf's contracts as hooks: what was there stays; what is returned leads to nothing, or to new blocks that nothing turns. Generic: over any program. -/
namespace Go.Am
open Go.RowKit
def Cx.behind (c : Cx) (w' : World) (N : Nat → Prop) : Cx := { c with w := w', I := fun B => c.I B ∨ N B }
theorem Rel.behind {c : Cx} {H : Heap} (hR : Rel c H) {w' : World} (hb : Below c.w.heap.size c.w w') (lo : Nat) (N : Nat → Prop) (hN : ∀ B, N B → c.w.heap.size ≤ B ∧ B < w'.heap.size) :
    Rel (c.behind w' N) H ∧ Tr c H (c.behind w' N) H ∧ Low lo c H (c.behind w' N) H := by
  have hext : Ext c (c.behind w' N) := by
    refine ⟨fun _ _ h => h, rfl, fun B h => .inl h, fun B h => hb.block B (hR.lt B h), fun B t n hs => ?_⟩
    have hlt : B < c.w.heap.size := by
      rcases Nat.lt_or_ge B c.w.heap.size with h1 | h1
      · exact h1
      · simp [World.shape?, Array.getElem?_eq_none h1] at hs
    show w'.shape? B = some (t, n)
    rw [shape_of_block (w := c.w) (hb.block B hlt)]
    exact hs
  refine ⟨⟨fun b blk hH => ?_, hR.inj, hR.fresh, fun B hB => ?_⟩, ⟨hext, hb.size, fun B hB _ => hb.block B hB, fun B _ h => h, fun B hB h => ?_, hb.os, hb.tape, hb.output⟩, ⟨fun b blk _ hH => ⟨hH, fun B base hi => ?_⟩, fun b _ h => h, Nat.le_refl _⟩⟩
  · obtain ⟨B, base, h1, h2, h3, h4⟩ := hR.blk b blk hH
    refine ⟨B, base, h1, ?_, Nat.lt_of_lt_of_le h3 hb.size, h4.ext hext (hb.block B h3)⟩
    rintro (h5 | h5)
    · exact h2 h5
    · have := (hN B h5).1
      omega
  · rcases hB with h | h
    · exact Nat.lt_of_lt_of_le (hR.lt B h) hb.size
    · exact (hN B h).2
  · rcases h with h | h
    · exact .inl h
    · have := (hN B h).1
      omega
  · obtain ⟨B', base', h1, _, h3, _⟩ := hR.blk b blk hH
    rw [hi] at h1
    cases h1
    exact hb.block B h3
theorem hook_of {P : Program} {f : FuncId} {vs : Array Value} {c : Cx} {H : Heap} {lo : Nat} {r : AVal} (hR : Rel c H)
    (h : Calls P f vs c.w fun e w' => ∃ u N, e = .returned u ∧ Below c.w.heap.size c.w w' ∧ (∀ B, N B → c.w.heap.size ≤ B ∧ B < w'.heap.size) ∧ V (c.behind w' N) r u) : Calls P f vs c.w (CallPost lo c H r H) := by
  refine h.mono ?_
  rintro e w' ⟨u, N, rfl, hb, hN, hv⟩
  obtain ⟨h1, h2, h3⟩ := hR.behind hb lo N hN
  exact ⟨u, _, rfl, rfl, h1, h2, h3, hv⟩
open Go.Lib in
mutual
def litEq : AVal → AVal → Bool
  | .str a, .str b => a == b
  | .int k a, .int j b => k == j && a == b
  | .bool a, .bool b => a == b
  | .agg a, .agg b => litEqs a b
  | .ipt a, .ipt b => litEqs a b
  | .tup a, .tup b => litEqs a b
  | .list n a x, .list m b y => Nat.beq n m && x == y && litRows a b
  | .nils, .nils => true
  | .nilp, .nilp => true
  | .nili, .nili => true
  | _, _ => false
def litEqs : List AVal → List AVal → Bool
  | [], [] => true
  | a :: as, b :: bs => litEq a b && litEqs as bs
  | _, _ => false
def litRows : List (List AVal) → List (List AVal) → Bool
  | [], [] => true
  | a :: as, b :: bs => litEqs a b && litRows as bs
  | _, _ => false
end
mutual
theorem litEq_is : ∀ {a b : AVal}, litEq a b = true → a = b
  | a, b, h => by
    unfold litEq at h
    split at h
    · rw [beq_iff_eq.1 h]
    · rw [Bool.and_eq_true, beq_iff_eq, beq_iff_eq] at h
      rw [h.1, h.2]
    · rw [beq_iff_eq.1 h]
    · rw [litEqs_is h]
    · rw [litEqs_is h]
    · rw [litEqs_is h]
    · rw [Bool.and_eq_true, Bool.and_eq_true, beq_iff_eq] at h
      rw [Nat.eq_of_beq_eq_true h.1.1, h.1.2, litRows_is h.2]
    · rfl
    · rfl
    · rfl
    · cases h
theorem litEqs_is : ∀ {a b : List AVal}, litEqs a b = true → a = b
  | [], [], _ => rfl
  | a :: as, b :: bs, h => by
    simp only [litEqs, Bool.and_eq_true] at h
    rw [litEq_is h.1, litEqs_is h.2]
  | [], _ :: _, h => by simp [litEqs] at h
  | _ :: _, [], h => by simp [litEqs] at h
theorem litRows_is : ∀ {a b : List (List AVal)}, litRows a b = true → a = b
  | [], [], _ => rfl
  | a :: as, b :: bs, h => by
    simp only [litRows, Bool.and_eq_true] at h
    rw [litEqs_is h.1, litRows_is h.2]
  | [], _ :: _, h => by simp [litRows] at h
  | _ :: _, [], h => by simp [litRows] at h
end
abbrev Lits := List (FuncId × List AVal × AVal)
def litFun (l : Lits) (f : FuncId) : Nat → List AVal → Heap → Option (AVal × Heap) :=
  fun _ args H => (l.find? fun x => x.1 == f && litEqs x.2.1 args).map fun x => (x.2.2, H)
def litHook (l : Lits) (f : FuncId) : Option (Nat → List AVal → Heap → Option (AVal × Heap)) := if l.any fun x => x.1 == f then some (litFun l f) else none
theorem litFun_is {l : Lits} {f : FuncId} {lo : Nat} {args : List AVal} {H : Heap} {r : AVal} {H' : Heap} (h : litFun l f lo args H = some (r, H')) : (f, args, r) ∈ l ∧ H' = H := by
  unfold litFun at h
  rw [Option.map_eq_some_iff] at h
  obtain ⟨x, hx, e⟩ := h
  have hm := List.mem_of_find?_eq_some hx
  have hg := List.find?_some hx
  simp only [Bool.and_eq_true, beq_iff_eq] at hg
  obtain ⟨f', a', r'⟩ := x
  obtain ⟨rfl, h2⟩ := hg
  have h2 := litEqs_is h2
  simp only [Prod.mk.injEq] at e h2
  obtain ⟨rfl, rfl⟩ := e
  subst h2
  exact ⟨hm, rfl⟩
theorem litHook_is {l : Lits} {f : FuncId} {hk : Nat → List AVal → Heap → Option (AVal × Heap)} (h : litHook l f = some hk) : hk = litFun l f := by
  unfold litHook at h
  split at h
  · exact (Option.some.inj h).symm
  · cases h
theorem litFun_low {l : Lits} {f : FuncId} (lo : Nat) (args : List AVal) (H : Heap) (r : AVal) (H' : Heap) (h : litFun l f lo args H = some (r, H')) : H.length ≤ H'.length ∧ ∀ b, b < lo → b < H.length → H'[b]? = H[b]? := by
  rw [(litFun_is h).2]
  exact ⟨Nat.le_refl _, fun _ _ _ => rfl⟩
end Go.Am

/- A state may be weakened: cells that are dead say nothing any more; blocks are let go, given other numbers, or sealed for all time. At an entry that owns nothing. Generic: over any program. -/
namespace Go.Am
open Go.RowKit
def renB (τ : List Nat) (b : Nat) : Option Nat := τ.idxOf? b
def nrm (hg : Nat → Option (Option ABlk)) (τ : List Nat) : Bool → Nat → AVal → Option AVal
  | _, 0, _ => none
  | top, k + 1, a =>
    match a with
    | .agg cs => (frzs (nrm hg τ top k) cs).map .agg
    | .tup cs => (frzs (nrm hg τ top k) cs).map .tup
    | .iface t v => (nrm hg τ top k v).map (.iface t)
    | .fn f x y => match frzs (nrm hg τ top k) x, frzs (nrm hg τ top k) y with
      | some x', some y' => some (.fn f x' y')
      | _, _ => none
    | .ptr b off =>
      match renB τ b with
      | some b' => if top then some (.ptr b' off) else none
      | none => match hg b with
        | some (some (.cells cs)) => (frzs (nrm hg τ false k) (cs.drop off)).map .ipt
        | _ => none
    | .sl sz b off len cap ex =>
      match renB τ b with
      | some b' => if top then some (.sl sz b' off len cap ex) else none
      | none => match hg b with
        | some (some (.cells cs)) =>
          if off + len * sz ≤ cs.length then (frzss (nrm hg τ false k) (chunk sz len (cs.drop off))).map fun rows => .list sz rows (ex && cap == len) else none
        | _ => none
    | .mapr b => match renB τ b with
      | some b' => if top then some (.mapr b') else none
      | none => none
    | a => some a
def nrmEs (f : AVal → Option AVal) : List (AVal × AVal) → Option (List (AVal × AVal))
  | [] => some []
  | (k, v) :: es => match f k, f v with
    | some k', some v' => (nrmEs f es).map ((k', v') :: ·)
    | _, _ => none
def nrmBlk (hg : Nat → Option (Option ABlk)) (τ : List Nat) : Option ABlk → Option (Option ABlk)
  | none => some none
  | some (.cells cs) => (frzs (nrm hg τ true 64) cs).map fun cs => some (.cells cs)
  | some (.mp es) => (nrmEs (nrm hg τ true 64) es).map fun es => some (.mp es)
  | some (.it s pos) => some (some (.it s pos))
  | some (.mi ..) => none
def nrmH (hg : Nat → Option (Option ABlk)) (τ : List Nat) : List Nat → Option Heap
  | [] => some []
  | b :: bs => match nrmBlk hg τ ((hg b).getD none), nrmH hg τ bs with
    | some x, some xs => some (x :: xs)
    | _, _ => none
def nrmC (c : Cx) (H : Heap) (τ : List Nat) (top : Bool) : Cx :=
  { c with
    ι := fun j => if top then (τ[j]?).bind c.ι else none
    I := fun B => c.I B ∨ ∃ b blk base, b ∉ τ ∧ H[b]? = some (some blk) ∧ c.ι b = some (B, base) }
theorem nrmC_pure (c : Cx) (H : Heap) (τ : List Nat) (top : Bool) : (nrmC c H τ top).pure = nrmC c H τ false := by
  simp [nrmC, Cx.pure]
theorem pure_nrm (c : Cx) (H : Heap) (τ : List Nat) (top : Bool) : Ext c.pure (nrmC c H τ top).pure :=
  ⟨(fun _ _ h => by cases h), rfl, (fun _ h => .inl h), fun _ _ => rfl, fun _ _ _ h => h⟩
theorem renB_some {τ : List Nat} {b j : Nat} (h : renB τ b = some j) : τ[j]? = some b := by
  unfold renB at h
  rw [List.idxOf?_eq_some_iff] at h
  obtain ⟨h1, h2, _⟩ := h
  rw [List.getElem?_eq_getElem h1]
  congr 1
theorem renB_none {τ : List Nat} {b : Nat} (h : renB τ b = none) : b ∉ τ := by
  unfold renB at h
  rwa [List.idxOf?_eq_none_iff] at h
theorem nrm_sim {c : Cx} {H : Heap} (hR : Rel c H) (τ : List Nat) : ∀ (k : Nat) (top : Bool) (a : AVal) {b : AVal}, nrm (fun b => H[b]?) τ top k a = some b → ∀ v, V c a v → V (nrmC c H τ top) b v
  | 0, _, _, _, h, _, _ => by cases h
  | k + 1, top, a, b, h, v, hv => by
    have ih := fun a b h v hv => nrm_sim hR τ k top a (b := b) h v hv
    have ih0 := fun a b h v hv => nrm_sim hR τ k false a (b := b) h v hv
    have pure0 : nrmC c H τ false = (nrmC c H τ top).pure := (nrmC_pure c H τ top).symm
    rw [pure0] at ih0
    have old : ∀ x j B base, renB τ x = some j → top = true → c.ι x = some (B, base) → (nrmC c H τ top).ι j = some (B, base) := by
      intro x j B base h1 h2 h3
      subst h2
      simp only [nrmC, if_true]
      rw [renB_some h1]
      exact h3
    unfold nrm at h
    cases a <;> simp only at h
    case agg cs =>
      rw [Option.map_eq_some_iff] at h
      obtain ⟨bs, h1, rfl⟩ := h
      simp only [V] at hv ⊢
      obtain ⟨vs, rfl, h2⟩ := hv
      exact ⟨vs, rfl, frzs_sim ih cs h1 vs h2⟩
    case tup cs =>
      rw [Option.map_eq_some_iff] at h
      obtain ⟨bs, h1, rfl⟩ := h
      simp only [V] at hv ⊢
      obtain ⟨vs, rfl, h2⟩ := hv
      exact ⟨vs, rfl, frzs_sim ih cs h1 vs h2⟩
    case iface t x =>
      rw [Option.map_eq_some_iff] at h
      obtain ⟨y, h1, rfl⟩ := h
      simp only [V] at hv ⊢
      obtain ⟨u, rfl, h2⟩ := hv
      exact ⟨u, rfl, ih x y h1 u h2⟩
    case fn f x y =>
      split at h
      · rename_i x' y' h1 h2
        simp only [Option.some.injEq] at h
        subst h
        simp only [V] at hv ⊢
        obtain ⟨vs, us, rfl, h3, h4⟩ := hv
        exact ⟨vs, us, rfl, frzs_sim ih x h1 vs h3, frzs_sim ih y h2 us h4⟩
      · cases h
    case ptr x off =>
      simp only [V] at hv
      obtain ⟨B, base, hi, rfl⟩ := hv
      split at h
      · rename_i j hj
        split at h
        · rename_i ht
          simp only [Option.some.injEq] at h
          subst h
          simp only [V]
          exact ⟨B, base, old x j B base hj ht hi, rfl⟩
        · cases h
      · rename_i hj
        split at h
        · rename_i cs hb
          rw [Option.map_eq_some_iff] at h
          obtain ⟨bs, h1, rfl⟩ := h
          obtain ⟨B0, base0, h3, _, _, _, _, vs, ha, hvs⟩ := hR.blk x _ hb
          rw [hi] at h3
          simp only [Option.some.injEq, Prod.mk.injEq] at h3
          obtain ⟨rfl, rfl⟩ := h3
          simp only [V]
          exact ⟨B, base + off, vs.drop off, rfl, .inr ⟨x, _, base, renB_none hj, hb, hi⟩, At_drop off ha, frzs_sim ih0 _ h1 _ (Vs_drop off hvs)⟩
        · cases h
    case sl sz x off len cap ex =>
      simp only [V] at hv
      obtain ⟨B, base, kk, o, hi, rfl, ho, g1, g2, g3, g4⟩ := hv
      split at h
      · rename_i j hj
        split at h
        · rename_i ht
          simp only [Option.some.injEq] at h
          subst h
          simp only [V]
          exact ⟨B, base, kk, o, old x j B base hj ht hi, rfl, ho, g1, g2, g3, g4⟩
        · cases h
      · rename_i hj
        split at h
        · rename_i cs hb
          split at h
          · rename_i hle
            rw [Option.map_eq_some_iff] at h
            obtain ⟨bs, h1, rfl⟩ := h
            obtain ⟨B0, base0, h3, _, _, _, _, vs, ha, hvs⟩ := hR.blk x _ hb
            rw [hi] at h3
            simp only [Option.some.injEq, Prod.mk.injEq] at h3
            obtain ⟨rfl, rfl⟩ := h3
            have hl := Vs_length hvs
            have hch := chunk_Vss (sz := sz) len (Vs_drop off hvs) (by simp; omega)
            obtain ⟨h5, h6⟩ := frzss_sim ih0 sz _ h1
            rw [chunk_length] at h5
            have hIx : (nrmC c H τ top).I B := .inr ⟨x, _, base, renB_none hj, hb, hi⟩
            simp only [V, h5]
            by_cases hk : 0 < kk
            · have ho' := ho hk
              subst ho'
              refine ⟨⟨B, base + off, none⟩, kk, _, rfl, by omega, ?_, .inr ⟨rfl, hIx, At_take _ (At_drop off ha)⟩, h6 _ hch⟩
              intro he
              simp only [Bool.and_eq_true, beq_iff_eq] at he
              have := g3 he.1
              omega
            · have hl0 : len = 0 := by omega
              subst hl0
              have hbs : bs = [] := List.eq_nil_of_length_eq_zero h5
              subst hbs
              exact ⟨⟨B, o, none⟩, kk, [], rfl, by omega, (fun _ => by omega), .inl rfl, by simp [Vss]⟩
          · cases h
        · cases h
    case mapr x =>
      split at h
      · rename_i j hj
        split at h
        · rename_i ht
          simp only [Option.some.injEq] at h
          subst h
          simp only [V] at hv ⊢
          obtain ⟨B, h1, rfl⟩ := hv
          exact ⟨B, old x j B 0 hj ht h1, rfl⟩
        · cases h
      · cases h
    case ipt cs =>
      simp only [Option.some.injEq] at h
      subst h
      simp only [V] at hv ⊢
      obtain ⟨B, off, vs, rfl, hI, ha, hvs⟩ := hv
      exact ⟨B, off, vs, rfl, .inl hI, ha, Vs_ext (pure_nrm c H τ _) _ _ hvs⟩
    case eptr id cs =>
      simp only [Option.some.injEq] at h
      subst h
      simp only [V] at hv ⊢
      obtain ⟨B, o, vs, hn, e1, rfl, hI, ha, hvs, hc⟩ := hv
      exact ⟨B, o, vs, hn, e1, rfl, .inl hI, ha, Vs_ext (pure_nrm c H τ _) _ _ hvs, hc⟩
    case list sz rows ex =>
      simp only [Option.some.injEq] at h
      subst h
      simp only [V] at hv ⊢
      obtain ⟨a, cap, vs, rfl, h1, h2, hm, hvs⟩ := hv
      exact ⟨a, cap, vs, rfl, h1, h2, hm.imp_right fun h => ⟨h.1, .inl h.2.1, h.2.2⟩, Vss_ext (pure_nrm c H τ _) _ _ _ hvs⟩
    all_goals (simp only [Option.some.injEq] at h; subst h)
    all_goals (simp only [V] at hv ⊢)
    all_goals exact hv
theorem nrmEs_sim {f : AVal → Option AVal} {c c' : Cx} (hf : ∀ a b, f a = some b → ∀ v, V c a v → V c' b v) : ∀ (es : List (AVal × AVal)) {fs : List (AVal × AVal)}, nrmEs f es = some fs → ∀ ms, Es c es ms → Es c' fs ms
  | [], fs, h, ms, hv => by
    simp only [nrmEs, Option.some.injEq] at h
    subst h
    simpa [Es] using hv
  | (k, v) :: es, fs, h, ms, hv => by
    simp only [nrmEs] at h
    split at h
    · rename_i k' v' hk hvv
      rw [Option.map_eq_some_iff] at h
      obtain ⟨gs, h1, rfl⟩ := h
      simp only [Es] at hv ⊢
      obtain ⟨m, ns, rfl, h2, h3, h4⟩ := hv
      exact ⟨m, ns, rfl, hf k k' hk _ h2, hf v v' hvv _ h3, nrmEs_sim hf es h1 ns h4⟩
    · cases h
theorem nrmH_get {H : Heap} {τ : List Nat} : ∀ {l : List Nat} {H1 : Heap}, nrmH (fun b => H[b]?) τ l = some H1 → H1.length = l.length ∧ ∀ (j : Nat) (x : Option ABlk), H1[j]? = some x → ∃ b : Nat, l[j]? = some b ∧ nrmBlk (fun b => H[b]?) τ (H[b]?.getD none) = some x
  | [], H1, h => by
    simp only [nrmH, Option.some.injEq] at h
    subst h
    exact ⟨rfl, fun j x hx => by simp at hx⟩
  | b :: bs, H1, h => by
    simp only [nrmH] at h
    split at h
    · rename_i x xs h1 h2
      simp only [Option.some.injEq] at h
      subst h
      obtain ⟨h3, h4⟩ := nrmH_get h2
      refine ⟨by simp [h3], ?_⟩
      intro j y hy
      cases j with
      | zero =>
        simp only [List.getElem?_cons_zero, Option.some.injEq] at hy
        subst hy
        exact ⟨b, by simp, h1⟩
      | succ j =>
        simp only [List.getElem?_cons_succ] at hy ⊢
        exact h4 j y hy
    · cases h
theorem nrm_rel {c : Cx} {H : Heap} (hR : Rel c H) {τ : List Nat} (hτ : τ.Nodup) {H1 : Heap} (h : nrmH (fun b => H[b]?) τ τ = some H1) : Rel (nrmC c H τ true) H1 := by
  obtain ⟨hlen, hget⟩ := nrmH_get h
  have hext : Ext c.pure (nrmC c H τ true).pure := pure_nrm c H τ true
  have back : ∀ (j : Nat) (blk1 : ABlk), H1[j]? = some (some blk1) → ∃ (b : Nat) (blk : ABlk), τ[j]? = some b ∧ H[b]? = some (some blk) ∧ nrmBlk (fun b => H[b]?) τ (some blk) = some (some blk1) := by
    intro j blk1 hj
    obtain ⟨b, h1, h2⟩ := hget j _ hj
    cases hb : H[b]? with
    | none =>
      rw [hb] at h2
      simp [nrmBlk] at h2
    | some x =>
      rw [hb] at h2
      cases x with
      | none => simp [nrmBlk] at h2
      | some blk => exact ⟨b, blk, h1, hb, h2⟩
  have hι : ∀ (j b : Nat), τ[j]? = some b → (nrmC c H τ true).ι j = c.ι b := by
    intro j b hj
    simp [nrmC, hj]
  refine ⟨?_, ?_, ?_, ?_⟩
  · intro j blk1 hj
    obtain ⟨b, blk, h1, h2, h3⟩ := back j blk1 hj
    obtain ⟨B, base, h4, h5, h6, h7⟩ := hR.blk b blk h2
    refine ⟨B, base, by rw [hι j b h1, h4], ?_, h6, ?_⟩
    · rintro (hi | ⟨b', blk', base', hn, hb', hi'⟩)
      · exact h5 hi
      · have := hR.inj b b' blk blk' B base base' h2 hb' h4 hi'
        subst this
        exact hn (List.mem_of_getElem? h1)
    · cases blk with
      | cells cs =>
        simp only [nrmBlk, Option.map_eq_some_iff] at h3
        obtain ⟨cs1, h8, h9⟩ := h3
        simp only [Option.some.injEq] at h9
        subst h9
        obtain ⟨g1, g2, vs, g3, g4⟩ := h7
        have hl : cs1.length = cs.length := by
          have e1 := Vs_length g4
          have e2 := Vs_length (frzs_sim (fun a b h v hv => nrm_sim hR τ 64 true a h v hv) cs h8 vs g4)
          omega
        exact ⟨g1, by rw [hl]; exact g2, vs, g3, frzs_sim (fun a b h v hv => nrm_sim hR τ 64 true a h v hv) cs h8 vs g4⟩
      | mp es =>
        simp only [nrmBlk, Option.map_eq_some_iff] at h3
        obtain ⟨es1, h8, h9⟩ := h3
        simp only [Option.some.injEq] at h9
        subst h9
        obtain ⟨g1, ms, clock, g2, g3, g4⟩ := h7
        exact ⟨g1, ms, clock, g2, nrmEs_sim (fun a b h v hv => nrm_sim hR τ 64 true a h v hv) es h8 _ g3, g4⟩
      | it s pos =>
        simp only [nrmBlk, Option.some.injEq] at h3
        subst h3
        exact h7
      | mi b since seen last => simp [nrmBlk] at h3
  · intro j j' blk blk' B base base' h1 h2 h3 h4
    obtain ⟨b, x, g1, g2, _⟩ := back j blk h1
    obtain ⟨b', x', g1', g2', _⟩ := back j' blk' h2
    rw [hι j b g1] at h3
    rw [hι j' b' g1'] at h4
    have := hR.inj b b' x x' B base base' g2 g2' h3 h4
    subst this
    have hj : j < τ.length := by
      rcases Nat.lt_or_ge j τ.length with h | h
      · exact h
      · rw [List.getElem?_eq_none h] at g1; cases g1
    exact (List.getElem?_inj hj hτ).1 (g1.trans g1'.symm)
  · intro j hj
    have : τ[j]? = none := List.getElem?_eq_none (by omega)
    simp [nrmC, this]
  · rintro B (hB | ⟨b, blk, base, _, h1, h2⟩)
    · exact hR.lt B hB
    · obtain ⟨B', base', h3, _, h4, _⟩ := hR.blk b blk h1
      rw [h2] at h3
      simp only [Option.some.injEq, Prod.mk.injEq] at h3
      obtain ⟨rfl, rfl⟩ := h3
      exact h4
def junkBut (live : List Nat) : Nat → List AVal → List AVal
  | _, [] => []
  | i, a :: ρ => (if live.contains i then a else .junk) :: junkBut live (i + 1) ρ
theorem junkBut_sim {c : Cx} {live : List Nat} : ∀ {ρ : List AVal} {i : Nat} {vs : List Value}, Vs c ρ vs → Vs c (junkBut live i ρ) vs
  | [], _, _, h => h
  | a :: ρ, i, vs, h => by
    simp only [Vs, junkBut] at h ⊢
    obtain ⟨v, us, rfl, h1, h2⟩ := h
    refine ⟨v, us, rfl, ?_, junkBut_sim h2⟩
    split
    · exact h1
    · simp [V]
def norm (live τ : List Nat) (ρ : List AVal) (hg : Nat → Option (Option ABlk)) : Option (List AVal × Heap) :=
  if τ.Nodup then
    match frzs (nrm hg τ true 64) (junkBut live 0 ρ), nrmH hg τ τ with
    | some ρ', some H' => some (ρ', H')
    | _, _ => none
  else none
structure Ent.Bare (E : Ent) : Prop where
  H : E.H = []
  lo : E.lo = 0
  ι : ∀ b, E.c.ι b = none
theorem norm_weak {S : AStat} {E : Ent} (hE : E.Bare) {live τ : List Nat} {ρ : List AVal} {H : Heap} {ρ' : List AVal} {H' : Heap} (h : norm live τ ρ (fun b => H[b]?) = some (ρ', H')) : Weak S E ρ H ρ' H' := by
  rintro tmps w ⟨c, rfl, hR, hG, hT, hL, hv⟩
  unfold norm at h
  split at h
  · rename_i hτ
    split at h
    · rename_i ρ1 H1 h1 h2
      simp only [Option.some.injEq, Prod.mk.injEq] at h
      obtain ⟨rfl, rfl⟩ := h
      have hno : ∀ (b : Nat) (blk : ABlk), E.H[b]? ≠ some (some blk) := by
        intro b blk e
        rw [hE.H] at e
        simp at e
      have hExt : Ext E.c (nrmC c H τ true) := ⟨(fun b x hx => by rw [hE.ι b] at hx; cases hx), hT.ext.θ, fun B hB => .inl (hT.ext.I B hB), hT.ext.kept, hT.ext.shape⟩
      refine ⟨nrmC c H τ true, rfl, nrm_rel hR hτ h2, ?_, ⟨hExt, hT.size, hT.frame, ?_, ?_, hT.os, hT.tape, hT.output⟩, ⟨?_, ?_, ?_⟩, ?_⟩
      · refine ⟨fun g cs hg => ?_, fun p hp => ⟨.inl (hG.t p hp).1, (hG.t p hp).2⟩⟩
        have hq := hG.v g cs hg
        simp only [V] at hq ⊢
        obtain ⟨B, off, vs, e, hI, ha, hvs⟩ := hq
        exact ⟨B, off, vs, e, .inl hI, ha, Vs_ext (pure_nrm c H τ true) _ _ hvs⟩
      · rintro B hB ⟨j, blk, base, hj, hi⟩
        obtain ⟨B', base', g1, g2, g3, _⟩ := (nrm_rel hR hτ h2).blk j blk hj
        rw [hi] at g1
        simp only [Option.some.injEq, Prod.mk.injEq] at g1
        obtain ⟨rfl, rfl⟩ := g1
        obtain ⟨hlen, hget⟩ := nrmH_get h2
        obtain ⟨b, k1, k2⟩ := hget j _ hj
        cases hb : H[b]? with
        | none => rw [hb] at k2; simp [nrmBlk] at k2
        | some x =>
          cases x with
          | none => rw [hb] at k2; simp [nrmBlk] at k2
          | some blk0 =>
            have : c.ι b = some (B, base) := by simpa [nrmC, k1] using hi
            exact hT.img B hB ⟨b, blk0, base, hb, this⟩
      · rintro B hB (hi | ⟨b, blk, base, _, g1, g2⟩)
        · exact hT.imm B hB hi
        · exact .inr (hT.img B hB ⟨b, blk, base, g1, g2⟩)
      · intro b blk hb
        rw [hE.lo] at hb
        omega
      · intro b hb
        rw [hE.H] at hb
        simp at hb
      · rw [hE.H]
        simp
      · exact frzs_sim (fun a b h v hv => nrm_sim hR τ 64 true a h v hv) _ h1 _ (junkBut_sim hv)
    · cases h
  · cases h
end Go.Am

/- Pieces of code run over trees, behind them what is dead let go; a loop of such rounds. At an entry that owns nothing. Generic: over any program. -/
namespace Go.Am
open Go.RowKit
noncomputable def Hp.ofL : Heap → Hp → Option Hp
  | [], h => some h
  | x :: xs, h => (h.push x).bind (Hp.ofL xs)
theorem Hp.ofL_ok : ∀ (H : Heap) {h h' : Hp}, h.Ok → Hp.ofL H h = some h' → h'.Ok ∧ h'.toL = h.toL ++ H
  | [], h, h', ho, e => by
    simp only [Hp.ofL, Option.some.injEq] at e
    subst e
    exact ⟨ho, by simp⟩
  | x :: xs, h, h', ho, e => by
    simp only [Hp.ofL, Option.bind_eq_some_iff] at e
    obtain ⟨h1, e1, e2⟩ := e
    obtain ⟨k1, k2⟩ := Hp.push_ok ho e1
    obtain ⟨k3, k4⟩ := Hp.ofL_ok xs k1 e2
    exact ⟨k3, by rw [k4, k2, List.append_assoc]; rfl⟩
noncomputable def piecesF (S : AStat) (HT : FuncId → Option HookT) (N : Nat) : List Code → Rg → Hp → Option (AExit × Rg × Hp)
  | [], r, h => some (.normal, r, h)
  | c :: l, r, h => match execF S HT N 0 c r h with
    | some (.normal, r', h') => piecesF S HT N l r' h'
    | x => x
theorem piecesF_ok {S : AStat} {HT : FuncId → Option HookT} (hH : HookSim S HT) (N : Nat) : ∀ (l : List Code) {r : Rg} {h : Hp} {x : AExit} {r' : Rg} {h' : Hp}, r.Ok → h.Ok → piecesF S HT N l r h = some (x, r', h') →
    r'.Ok ∧ h'.Ok ∧ execL S N 0 l r.toL h.toL = some (x, r'.toL, h'.toL)
  | [], r, h, x, r', h', hr, ho, e => by
    simp only [piecesF, Option.some.injEq, Prod.mk.injEq] at e
    obtain ⟨rfl, rfl, rfl⟩ := e
    exact ⟨hr, ho, rfl⟩
  | c :: l, r, h, x, r', h', hr, ho, e => by
    simp only [piecesF] at e
    split at e
    · rename_i r1 h1 e1
      obtain ⟨k1, k2, k3⟩ := execF_ok hH N _ _ _ _ _ _ _ hr ho e1
      obtain ⟨g1, g2, g3⟩ := piecesF_ok hH N l k1 k2 e
      exact ⟨g1, g2, by simp only [execL, k3, g3]⟩
    · rename_i hne
      obtain ⟨k1, k2, k3⟩ := execF_ok hH N _ _ _ _ _ _ _ hr ho e
      refine ⟨k1, k2, ?_⟩
      simp only [execL, k3]
      cases x with
      | normal => exact (hne _ _ e).elim
      | exit i => rfl
      | ret => rfl
abbrev StA := List AVal × Heap
noncomputable def roundF (S : AStat) (HT : FuncId → Option HookT) (N : Nat) (l : List Code) (live τ : List Nat) (st : StA) : Option (AExit × StA) :=
  bif Nat.ble st.1.length 512 then
    (Hp.ofL st.2 Hp.empty).bind fun h => (piecesF S HT N l (Rg.frame st.1 st.1.length) h).bind fun y => (norm live τ y.2.1.toL y.2.2.get).map fun z => (y.1, z)
  else none
theorem roundF_ok {S : AStat} {HT : FuncId → Option HookT} (hH : HookSim S HT) {N : Nat} {l : List Code} {live τ : List Nat} {st : StA} {x : AExit} {st' : StA} (e : roundF S HT N l live τ st = some (x, st')) :
    ∃ ρ' H', execL S N 0 l st.1 st.2 = some (x, ρ', H') ∧ ∀ E : Ent, E.Bare → Weak S E ρ' H' st'.1 st'.2 := by
  unfold roundF at e
  cases hc : Nat.ble st.1.length 512 with
  | false => rw [hc] at e; cases e
  | true =>
    rw [hc] at e
    simp only [cond_true, Option.bind_eq_some_iff, Option.map_eq_some_iff] at e
    obtain ⟨h, e1, ⟨x', r', h'⟩, e2, ⟨ρ1, H1⟩, e3, e4⟩ := e
    simp only [Prod.mk.injEq] at e4
    obtain ⟨rfl, rfl⟩ := e4
    obtain ⟨k1, k2⟩ := Hp.ofL_ok _ Hp.empty_ok e1
    obtain ⟨g1, g2, g3⟩ := piecesF_ok hH N l (frame_ok st.1 st.1.length (Nat.le_of_ble_eq_true hc)) k1 e2
    rw [frame_toL _ _ (Nat.le_of_ble_eq_true hc) (Nat.le_refl _), Nat.sub_self, List.replicate_zero, List.append_nil, k2, Hp.empty_toL, List.nil_append] at g3
    rw [getF_eq g2] at e3
    exact ⟨_, _, g3, fun E hE => norm_weak hE e3⟩
def roundA (S : AStat) (N : Nat) (l : List Code) (live τ : List Nat) (st : StA) : Option (AExit × StA) :=
  (execL S N 0 l st.1 st.2).bind fun y => (norm live τ y.2.1 (fun b => y.2.2[b]?)).map fun z => (y.1, z)
theorem roundA_ok {S : AStat} {N : Nat} {l : List Code} {live τ : List Nat} {st : StA} {x : AExit} {st' : StA} (e : roundA S N l live τ st = some (x, st')) :
    ∃ ρ' H', execL S N 0 l st.1 st.2 = some (x, ρ', H') ∧ ∀ E : Ent, E.Bare → Weak S E ρ' H' st'.1 st'.2 := by
  unfold roundA at e
  simp only [Option.bind_eq_some_iff, Option.map_eq_some_iff] at e
  obtain ⟨⟨x', ρ', H'⟩, e2, ⟨ρ1, H1⟩, e3, e4⟩ := e
  simp only [Prod.mk.injEq] at e4
  obtain ⟨rfl, rfl⟩ := e4
  exact ⟨_, _, e2, fun E hE => norm_weak hE e3⟩
theorem WpL.run {S : AStat} (hS : StatOk S) {E : Ent} {N : Nat} {l2 : List Code} {Q : OutQ} : ∀ (l : List Code) {ρ : List AVal} {H : Heap} {x : AExit} {ρ' : List AVal} {H' : Heap}, execL S N E.lo l ρ H = some (x, ρ', H') →
    (x = .normal ∧ WpL S E l2 ρ' H' Q) ∨ (x ≠ .normal ∧ Q x ρ' H') → WpL S E (l ++ l2) ρ H Q
  | [], ρ, H, x, ρ', H', e, h => by
    simp only [execL, Option.some.injEq, Prod.mk.injEq] at e
    obtain ⟨rfl, rfl, rfl⟩ := e
    rcases h with ⟨_, h⟩ | ⟨h, _⟩
    · exact h
    · exact (h rfl).elim
  | c :: l, ρ, H, x, ρ', H', e, h => by
    simp only [execL] at e
    split at e
    · rename_i ρ1 H1 e1
      exact Wp.run hS ⟨N, e1⟩ (.inl ⟨rfl, WpL.run hS l e h⟩)
    · rename_i hne
      cases x with
      | normal => exact (hne _ _ e).elim
      | exit i =>
        rcases h with ⟨h, _⟩ | ⟨h, h'⟩
        · cases h
        · exact Wp.run hS ⟨N, e⟩ (.inr ⟨h, h'⟩)
      | ret =>
        rcases h with ⟨h, _⟩ | ⟨h, h'⟩
        · cases h
        · exact Wp.run hS ⟨N, e⟩ (.inr ⟨h, h'⟩)
theorem WpL.round {S : AStat} (hS : StatOk S) {HT : FuncId → Option HookT} (hH : HookSim S HT) {E : Ent} (hE : E.Bare) {N : Nat} {l l2 : List Code} {live τ : List Nat} {st st' : StA} {Q : OutQ}
    (e : roundF S HT N l live τ st = some (.normal, st')) (h : WpL S E l2 st'.1 st'.2 Q) : WpL S E (l ++ l2) st.1 st.2 Q := by
  obtain ⟨ρ', H', h1, h2⟩ := roundF_ok hH e
  rw [← hE.lo] at h1
  exact WpL.run hS l h1 (.inl ⟨rfl, WpL.weak (h2 E hE) h⟩)
theorem WpL.last {S : AStat} (hS : StatOk S) {E : Ent} (hE : E.Bare) {N : Nat} {l : List Code} {live τ : List Nat} {st st' : StA} {Q : OutQ}
    (e : roundA S N l live τ st = some (.ret, st')) (h : Q .ret st'.1 st'.2) : WpL S E l st.1 st.2 (fun x ρ H => ∃ ρ1 H1, Weak S E ρ H ρ1 H1 ∧ Q x ρ1 H1) := by
  obtain ⟨ρ', H', h1, h2⟩ := roundA_ok e
  rw [← hE.lo] at h1
  have := WpL.run (l2 := []) (Q := fun x ρ H => ∃ ρ1 H1, Weak S E ρ H ρ1 H1 ∧ Q x ρ1 H1) hS l h1 (.inr ⟨by simp, _, _, h2 E hE, h⟩)
  rwa [List.append_nil] at this
theorem Wp.rounds {S : AStat} (hS : StatOk S) {HT : FuncId → Option HookT} (hH : HookSim S HT) {E : Ent} (hE : E.Bare) {N : Nat} {p : Code} {live : List Nat} {τs : Nat → List Nat} {st : Nat → StA} {n : Nat} {i : Nat} {stE : StA}
    (h : ∀ k, k < n → roundF S HT N [p] live (τs k) (st k) = some (.normal, st (k + 1))) {liveE τE : List Nat} (he : roundF S HT N [p] liveE τE (st n) = some (.exit i, stE)) {Q : OutQ}
    (hQ : ∀ ρ H, Weak S E ρ H stE.1 stE.2 → Q (.exit i) ρ H) : Wp S E (.loop p) (st 0).1 (st 0).2 Q := by
  refine Wp.loop (σ := Nat) (I := fun k => k ≤ n) (ρs := fun k => (st k).1) (Hs := fun k => (st k).2) (m := fun k => n - k) ?_ (Nat.zero_le n)
  intro k hk
  have one : ∀ {ρ : List AVal} {H : Heap} {x : AExit} {ρ' : List AVal} {H' : Heap}, execL S N 0 [p] ρ H = some (x, ρ', H') → execA S N 0 p ρ H = some (x, ρ', H') := by
    intro ρ H x ρ' H' e
    simp only [execL] at e
    split at e
    · rename_i e1
      rw [e1]
      exact e
    · exact e
  rcases Nat.lt_or_ge k n with hlt | hge
  · obtain ⟨ρ', H', h1, h2⟩ := roundF_ok hH (h k hlt)
    exact Wp.run hS ⟨N, by rw [hE.lo]; exact one h1⟩ (.inl ⟨rfl, k + 1, hlt, by omega, h2 E hE⟩)
  · obtain rfl : k = n := by omega
    obtain ⟨ρ', H', h1, h2⟩ := roundF_ok hH he
    exact Wp.run hS ⟨N, by rw [hE.lo]; exact one h1⟩ (.inr ⟨by simp, hQ _ _ (h2 E hE)⟩)
theorem bareEnt {c : Cx} (hR : Rel c []) : (Ent.mk 0 c []).Bare := ⟨rfl, rfl, fun b => hR.fresh b (Nat.zero_le _)⟩
end Go.Am

/- Slices of numbers, and of slices of numbers, as they lie in a world; how they are read off an idealised memory. Generic: over any program. -/
namespace Go.Am
open Go.RowKit
def intsOf : List (List AVal) → Option (List Int)
  | [] => some []
  | [.int .i64 n] :: r => (intsOf r).map (n :: ·)
  | _ => none
def listsOf (f : AVal → Option (List Int)) : List (List AVal) → Option (List (List Int))
  | [] => some []
  | [v] :: r => match f v, listsOf f r with
    | some l, some ls => some (l :: ls)
    | _, _ => none
  | _ => none
def rowsN (hg : HGet) : AVal → Option (List (List AVal))
  | .str _ => none
  | x => rowsG hg 1 x
def intsG (hg : HGet) (x : AVal) : Option (List Int) := (rowsN hg x).bind intsOf
def listsG (hg : HGet) (x : AVal) : Option (List (List Int)) := (rowsN hg x).bind (listsOf (intsG hg))
def IntsAt (w : World) (v : Value) (l : List Int) : Prop :=
  ∃ so cap, v = .slice so l.length cap ∧ (l ≠ [] → ∃ B o, so = some ⟨B, o, none⟩ ∧ B < w.heap.size ∧ At w B o (l.map (Value.int .i64)))
def ListsAt (w : World) (v : Value) (ls : List (List Int)) : Prop :=
  ∃ so cap, v = .slice so ls.length cap ∧ (ls ≠ [] → ∃ B o us, so = some ⟨B, o, none⟩ ∧ B < w.heap.size ∧ At w B o us ∧ us.length = ls.length ∧ ∀ (j : Nat) u l, us[j]? = some u → ls[j]? = some l → IntsAt w u l)
theorem At.below {w w' : World} (hb : Below w.heap.size w w') {B o : Nat} {us : List Value} (hB : B < w.heap.size) (h : At w B o us) : At w' B o us := h.of_block (hb.block B hB)
theorem IntsAt.below {w w' : World} (hb : Below w.heap.size w w') {v : Value} {l : List Int} (h : IntsAt w v l) : IntsAt w' v l := by
  obtain ⟨so, cap, e, h⟩ := h
  refine ⟨so, cap, e, fun hl => ?_⟩
  obtain ⟨B, o, h1, h2, h3⟩ := h hl
  exact ⟨B, o, h1, Nat.lt_of_lt_of_le h2 hb.size, h3.below hb h2⟩
theorem ListsAt.below {w w' : World} (hb : Below w.heap.size w w') {v : Value} {ls : List (List Int)} (h : ListsAt w v ls) : ListsAt w' v ls := by
  obtain ⟨so, cap, e, h⟩ := h
  refine ⟨so, cap, e, fun hl => ?_⟩
  obtain ⟨B, o, us, h1, h2, h3, h4, h5⟩ := h hl
  exact ⟨B, o, us, h1, Nat.lt_of_lt_of_le h2 hb.size, h3.below hb h2, h4, fun j u l hu hl => (h5 j u l hu hl).below hb⟩
theorem intsOf_Vs {c : Cx} : ∀ {rows : List (List AVal)} {l : List Int} {us : List Value}, intsOf rows = some l → Vs c rows.flatten us → us = l.map (Value.int .i64) ∧ rows.length = l.length
  | [], l, us, h, hv => by
    simp only [intsOf, Option.some.injEq] at h
    subst h
    simp only [List.flatten_nil, Vs] at hv
    exact ⟨by simpa using hv, rfl⟩
  | r :: rows, l, us, h, hv => by
    unfold intsOf at h
    split at h
    · rename_i e; cases e
    · rename_i n r' e
      simp only [List.cons.injEq] at e
      obtain ⟨rfl, rfl⟩ := e
      rw [Option.map_eq_some_iff] at h
      obtain ⟨l', h1, rfl⟩ := h
      simp only [List.flatten_cons, List.cons_append, List.nil_append, Vs, V] at hv
      obtain ⟨v, us', rfl, rfl, hv⟩ := hv
      obtain ⟨e1, e2⟩ := intsOf_Vs h1 hv
      exact ⟨by rw [e1]; rfl, by simp [e2]⟩
    · cases h
theorem rowsN_at {c : Cx} {H : Heap} (hR : Rel c H) {x : AVal} {rows : List (List AVal)} {v : Value} (h : rowsN (fun b => H[b]?) x = some rows) (hv : V c x v) :
    ∃ so cap, v = .slice so rows.length cap ∧ (rows ≠ [] → ∃ B o us, so = some ⟨B, o, none⟩ ∧ B < c.w.heap.size ∧ At c.w B o us ∧ Vs c rows.flatten us ∧ us.length = rows.length) := by
  cases x with
  | str s => cases h
  | nils =>
    simp only [rowsN, rowsG, Option.some.injEq] at h
    subst h
    simp only [V] at hv
    exact ⟨none, 0, hv, fun h => absurd rfl h⟩
  | list sz rws ex =>
    simp only [rowsN, rowsG] at h
    split at h
    · rename_i hs
      subst hs
      simp only [Option.some.injEq] at h
      subst h
      simp only [V] at hv
      obtain ⟨a, cap, vs, rfl, _, _, hm, hvs⟩ := hv
      refine ⟨some a, cap, rfl, fun hne => ?_⟩
      rcases hm with hm | ⟨h1, h2, h3⟩
      · exact absurd hm hne
      · obtain ⟨ab, ao, asp⟩ := a
        simp only at h1 h2 h3
        subst h1
        have hl := Vss_length hvs
        exact ⟨ab, ao, vs, rfl, hR.lt _ h2, h3, Vs_ext (Ext.of_pure c) _ _ (Vs_flat hvs), by omega⟩
    · cases h
  | sl sz b off len cap ex =>
    simp only [rowsN, rowsG] at h
    split at h
    · rename_i hs
      subst hs
      split at h
      · rename_i cs hb
        split at h
        · rename_i hle
          simp only [Option.some.injEq] at h
          subst h
          simp only [V] at hv
          obtain ⟨B, base, k, o, hi, rfl, h0, h1, h2, _, _⟩ := hv
          rw [chunk_length]
          refine ⟨_, k, rfl, fun hne => ?_⟩
          have hlen : 0 < len := by
            rcases Nat.eq_zero_or_pos len with h | h
            · subst h; exact absurd rfl hne
            · exact h
          obtain rfl := h0 (by omega)
          obtain ⟨B', base', g1, _, g3, _, _, vs, ha, hvs⟩ := hR.blk b _ hb
          rw [hi] at g1
          simp only [Option.some.injEq, Prod.mk.injEq] at g1
          obtain ⟨rfl, rfl⟩ := g1
          have hl := Vs_length hvs
          have hch := chunk_Vss (sz := 1) len (Vs_drop off hvs) (by simp; omega)
          have hf := Vs_flat hch
          refine ⟨B, _, _, rfl, g3, At_take _ (At_drop off ha), hf, ?_⟩
          simp only [List.length_take, List.length_drop]
          omega
        · cases h
      · cases h
    · cases h
  | _ => simp [rowsN, rowsG] at h
theorem intsG_at {c : Cx} {H : Heap} (hR : Rel c H) {x : AVal} {l : List Int} {v : Value} (h : intsG (fun b => H[b]?) x = some l) (hv : V c x v) : IntsAt c.w v l := by
  unfold intsG at h
  rw [Option.bind_eq_some_iff] at h
  obtain ⟨rows, h1, h2⟩ := h
  obtain ⟨so, cap, rfl, h3⟩ := rowsN_at hR h1 hv
  have hlen : rows.length = l.length := by
    clear h3 h1 hv
    induction rows generalizing l with
    | nil => simp only [intsOf, Option.some.injEq] at h2; subst h2; rfl
    | cons r rows ih =>
      unfold intsOf at h2
      split at h2
      · rename_i e; cases e
      · rename_i n r' e
        simp only [List.cons.injEq] at e
        obtain ⟨rfl, rfl⟩ := e
        rw [Option.map_eq_some_iff] at h2
        obtain ⟨l', h3, rfl⟩ := h2
        simp [ih h3]
      · cases h2
  refine ⟨so, cap, by rw [hlen], fun hl => ?_⟩
  obtain ⟨B, o, us, e, hB, ha, hvs, _⟩ := h3 (by rintro rfl; simp at hlen; exact hl (List.eq_nil_of_length_eq_zero (by simpa using hlen.symm)))
  obtain ⟨rfl, _⟩ := intsOf_Vs h2 hvs
  exact ⟨B, o, e, hB, ha⟩
theorem listsOf_at {c : Cx} {H : Heap} (hR : Rel c H) : ∀ {rows : List (List AVal)} {ls : List (List Int)} {us : List Value}, listsOf (intsG fun b => H[b]?) rows = some ls → Vs c rows.flatten us →
    rows.length = ls.length ∧ us.length = ls.length ∧ ∀ (j : Nat) u l, us[j]? = some u → ls[j]? = some l → IntsAt c.w u l
  | [], ls, us, h, hv => by
    simp only [listsOf, Option.some.injEq] at h
    subst h
    simp only [List.flatten_nil, Vs] at hv
    subst hv
    exact ⟨rfl, rfl, fun j u l h => by simp at h⟩
  | r :: rows, ls, us, h, hv => by
    unfold listsOf at h
    split at h
    · rename_i e; cases e
    · rename_i v r' e
      simp only [List.cons.injEq] at e
      obtain ⟨rfl, rfl⟩ := e
      split at h
      · rename_i l ls' h1 h2
        simp only [Option.some.injEq] at h
        subst h
        simp only [List.flatten_cons, List.cons_append, List.nil_append, Vs] at hv
        obtain ⟨v, us', rfl, hv0, hv⟩ := hv
        obtain ⟨e1, e2, e3⟩ := listsOf_at hR h2 hv
        refine ⟨by simp [e1], by simp [e2], fun j u l hu hl => ?_⟩
        cases j with
        | zero =>
          simp only [List.getElem?_cons_zero, Option.some.injEq] at hu hl
          subst hu hl
          exact intsG_at hR h1 hv0
        | succ j =>
          simp only [List.getElem?_cons_succ] at hu hl
          exact e3 j u l hu hl
      · cases h
    · cases h
theorem listsOf_len {f : AVal → Option (List Int)} : ∀ {rows : List (List AVal)} {ls : List (List Int)}, listsOf f rows = some ls → rows.length = ls.length
  | [], ls, h => by
    simp only [listsOf, Option.some.injEq] at h
    subst h
    rfl
  | r :: rows, ls, h => by
    unfold listsOf at h
    split at h
    · rename_i e; cases e
    · rename_i v r' e
      simp only [List.cons.injEq] at e
      obtain ⟨rfl, rfl⟩ := e
      split at h
      · rename_i l ls' h1 h2
        simp only [Option.some.injEq] at h
        subst h
        simp [listsOf_len h2]
      · cases h
    · cases h
theorem listsG_at {c : Cx} {H : Heap} (hR : Rel c H) {x : AVal} {ls : List (List Int)} {v : Value} (h : listsG (fun b => H[b]?) x = some ls) (hv : V c x v) : ListsAt c.w v ls := by
  unfold listsG at h
  rw [Option.bind_eq_some_iff] at h
  obtain ⟨rows, h1, h2⟩ := h
  obtain ⟨so, cap, rfl, h3⟩ := rowsN_at hR h1 hv
  have hlen := listsOf_len h2
  refine ⟨so, cap, by rw [hlen], fun hl => ?_⟩
  obtain ⟨B, o, us, e, hB, ha, hvs, _⟩ := h3 (by rintro rfl; simp at hlen; exact hl (List.eq_nil_of_length_eq_zero (by simpa using hlen.symm)))
  obtain ⟨_, h5, h6⟩ := listsOf_at hR h2 hvs
  exact ⟨B, o, us, e, hB, ha, h5, h6⟩
end Go.Am

/- What a law's arguments are, read by their types: as idealised values. Generic: over any program. -/
namespace Go.Am
open Go.RowKit
inductive Ty where
  | bool
  | int (k : IntKind)
  | str
  | slice (e : Ty)
  | row (fs : List Ty)
mutual
def Ty.size : Ty → Nat
  | .row fs => sizes fs
  | .bool => 1
  | .int _ => 1
  | .str => 1
  | .slice _ => 1
def sizes : List Ty → Nat
  | [] => 0
  | t :: ts => t.size + sizes ts
end
mutual
def Ty.Is : Ty → List AVal → Prop
  | .bool, cs => ∃ b, cs = [.bool b]
  | .int k, cs => ∃ n, cs = [.int k n] ∧ k.min ≤ n ∧ n ≤ k.max
  | .str, cs => ∃ s : List UInt8, cs = [.str s] ∧ s.length ≤ maxLen
  | .slice e, cs => cs = [.nils] ∨ ∃ rows ex, cs = [.list e.size rows ex] ∧ rows.length ≤ maxLen ∧ ∀ r ∈ rows, e.Is r
  | .row fs, cs => IsL fs cs
def IsL : List Ty → List AVal → Prop
  | [], cs => cs = []
  | t :: ts, cs => ∃ a b, cs = a ++ b ∧ t.Is a ∧ IsL ts b
end
mutual
def Ty.ok (P : Program) : Ty → TypeId → Bool
  | .bool, t => match P.underlying t with | some .bool => true | _ => false
  | .int k, t => match P.underlying t with | some (.int k') => decide (k' = k) | _ => false
  | .str, t => match P.underlying t with | some .string => true | _ => false
  | .slice e, t => match P.underlying t with | some (.slice u) => e.ok P u && P.cellsOf u == e.size && Nat.blt 0 e.size | _ => false
  | .row fs, t =>
    match P.underlying t with
    | some (.struct gs) => P.cellsOf t == sizes fs && okL P fs (gs.toList.map fun g => (g.type, g.offset)) 0
    | some (.array n e) => P.cellsOf t == sizes fs && okL P fs ((List.range n).map fun i => (e, i * P.cellsOf e)) 0
    | _ => false
def okL (P : Program) : List Ty → List (TypeId × Nat) → Nat → Bool
  | [], [], _ => true
  | t :: ts, u :: us, o => t.ok P u.1 && u.2 == o && P.cellsOf u.1 == t.size && okL P ts us (o + t.size)
  | [], _ :: _, _ => false
  | _ :: _, [], _ => false
end
theorem addr_add_add (a : Addr) (m n : Nat) : (a.add m).add n = a.add (m + n) := by
  unfold Addr.add
  by_cases hm : m = 0
  · subst hm; simp
  · by_cases hn : n = 0
    · subst hn; simp
    · have : m + n ≠ 0 := by omega
      simp [hm, hn, Nat.add_assoc]
section
variable {P : Program} {H : Type} {enc : TypeId × Value → H} {W : World} {θ : List (Nat × Nat)} {sp : Nat → Bool} {held : Bool}
theorem cell_lt {a : Addr} {v : Value} (h : W.cell? a = some v) : a.spot = none ∧ a.block < W.heap.size := by
  unfold World.cell? at h
  split at h
  · rename_i hb
    split at h
    · cases h
    · rename_i hs
      refine ⟨by simpa using hs, ?_⟩
      rcases Nat.lt_or_ge a.block W.heap.size with h1 | h1
      · exact h1
      · rw [Array.getElem?_eq_none h1] at hb; cases hb
  · cases h
theorem rows_reads {e : TypeId} {sz : Nat} {Q : List AVal → Prop} {a : Addr} {len m : Nat}
    (ih : ∀ cs x, DataW.trod enc P W 0 sp held m e cs = some x → ∃ as, Vs (cx0 W θ) as cs ∧ Q as)
    (h : ∀ i, i < len → ∃ y, (W.cells? 0 (a.add (i * sz)) sz).bind (DataW.trod enc P W 0 sp held m e) = some y) :
    ∀ n i, i + n = len → ∃ rows vs, rows.length = n ∧ Vss (cx0 W θ) sz rows vs ∧ (∀ r ∈ rows, Q r) ∧ ∀ j v, vs[j]? = some v → W.cell? (a.add (i * sz + j)) = some v := by
  intro n
  induction n with
  | zero => intro i _; exact ⟨[], [], rfl, by simp [Vss], by simp, by simp⟩
  | succ n ihn =>
    intro i hi
    obtain ⟨rows, vs, h1, h2, h3, h4⟩ := ihn (i + 1) (by omega)
    obtain ⟨y, hy⟩ := h i (by omega)
    rw [Option.bind_eq_some_iff] at hy
    obtain ⟨cs, hc, ht⟩ := hy
    obtain ⟨_, hl, hcell⟩ := World.cells?_some hc
    obtain ⟨as, h5, h6⟩ := ih cs y ht
    refine ⟨as :: rows, cs ++ vs, by simp [h1], ?_, ?_, ?_⟩
    · simp only [Vss]
      exact ⟨cs, vs, rfl, hl, h5, h2⟩
    · intro r hr
      rcases List.mem_cons.1 hr with rfl | hr
      · exact h6
      · exact h3 r hr
    · intro j v hj
      rcases Nat.lt_or_ge j sz with hlt | hge
      · rw [List.getElem?_append_left (by omega)] at hj
        rw [← addr_add_add, hcell j hlt, hj]
      · rw [List.getElem?_append_right (by omega), hl] at hj
        have := h4 (j - sz) v hj
        rw [show i * sz + j = (i + 1) * sz + (j - sz) by rw [Nat.add_mul]; omega]
        exact this
mutual
theorem ty_reads : ∀ (ty : Ty) {fuel : Nat} {t : TypeId} {cs : List Value} {x : DataW H × List MemPlace}, ty.ok P t = true → DataW.trod enc P W 0 sp held fuel t cs = some x →
    ∃ as, Vs (cx0 W θ) as cs ∧ ty.Is as ∧ as.length = ty.size
  | .bool, fuel, t, cs, x, ho, h => by
    simp only [Ty.ok] at ho
    split at ho
    · rename_i ht
      obtain ⟨b, rfl, _⟩ := DataW.trod_bool ht h
      exact ⟨[.bool b], by simp [Vs, V], ⟨b, rfl⟩, rfl⟩
    · cases ho
  | .int k, fuel, t, cs, x, ho, h => by
    simp only [Ty.ok] at ho
    split at ho
    · rename_i k' ht
      simp only [decide_eq_true_eq] at ho
      subst ho
      obtain ⟨n, rfl, _, hw⟩ := DataW.trod_int ht h
      simp only [Lit.wf, Bool.and_eq_true, decide_eq_true_eq] at hw
      exact ⟨[.int k' n], by simp [Vs, V], ⟨n, rfl, hw⟩, rfl⟩
    · cases ho
  | .str, fuel, t, cs, x, ho, h => by
    simp only [Ty.ok] at ho
    split at ho
    · rename_i ht
      obtain ⟨s, rfl, _, hs⟩ := DataW.trod_string ht h
      refine ⟨[.str s.data.toList], by simp [Vs, V], ⟨_, rfl, ?_⟩, rfl⟩
      have : s.data.toList.length = s.size := Array.length_toList
      omega
    · cases ho
  | .slice e, fuel, t, cs, x, ho, h => by
    simp only [Ty.ok] at ho
    split at ho
    · rename_i u ht
      simp only [Bool.and_eq_true, beq_iff_eq] at ho
      obtain ⟨⟨ho, hsz⟩, hpos⟩ := ho
      rcases DataW.trod_slice ht h with ⟨rfl, _⟩ | ⟨a, len, cap, elems, rest, m, rfl, rfl, _, _, hlc, hcm, hel, hall, _⟩
      · exact ⟨[.nils], by simp [Vs, V], .inl rfl, rfl⟩
      · obtain ⟨rows, vs, h1, h2, h3, h4⟩ := rows_reads (θ := θ) (Q := e.Is) (a := a) (len := len) (sz := P.cellsOf u) (fun cs x hx => by
          obtain ⟨as, g1, g2, _⟩ := ty_reads e ho hx
          exact ⟨as, g1, g2⟩) (fun i hi => ⟨elems[i], by rw [hall i hi]; exact List.getElem?_eq_getElem (by omega)⟩) len 0 (by omega)
        subst h1
        refine ⟨[.list e.size rows (decide (cap = rows.length))], ?_, .inr ⟨rows, _, rfl, by omega, h3⟩, rfl⟩
        simp only [Vs]
        refine ⟨_, [], rfl, ?_, rfl⟩
        simp only [V]
        rw [← hsz]
        refine ⟨a, cap, vs, rfl, hlc, by simp, ?_, h2⟩
        cases rows with
        | nil => exact .inl rfl
        | cons r rows =>
          right
          have hne : ∃ v, vs[0]? = some v := by
            have := Vss_length h2
            have hp : 0 < e.size := by simpa [Nat.blt_eq] using hpos
            simp only [List.length_cons, Nat.add_mul, hsz] at this
            exact ⟨vs[0], List.getElem?_eq_getElem (by omega)⟩
          obtain ⟨v, hv⟩ := hne
          have h0 := h4 0 v hv
          simp only [Nat.zero_mul, Nat.zero_add] at h0
          have hs := cell_lt h0
          have ha0 : a.add 0 = a := by simp [Addr.add]
          rw [ha0] at hs
          refine ⟨hs.1, hs.2, fun j v hj => ?_⟩
          have := h4 j v hj
          simp only [Nat.zero_mul, Nat.zero_add] at this
          obtain ⟨B, o, s⟩ := a
          obtain rfl : s = none := hs.1
          rw [add_plain] at this
          exact this
    · cases ho
  | .row fs, fuel, t, cs, x, ho, h => by
    simp only [Ty.ok] at ho
    split at ho
    · rename_i gs ht
      simp only [Bool.and_eq_true, beq_iff_eq] at ho
      obtain ⟨xs, n, rfl, _, hl, hx, hall⟩ := DataW.trod_struct ht h
      have := tys_reads fs (cs := cs) (fuel := n) ho.2 (fun i u hu => by
        rw [List.getElem?_map, Option.map_eq_some_iff] at hu
        obtain ⟨f, hf, rfl⟩ := hu
        rw [Array.getElem?_toList] at hf
        have hi : i < xs.length := by
          rw [hx]
          rcases Nat.lt_or_ge i gs.size with h1 | h1
          · exact h1
          · rw [Array.getElem?_eq_none h1] at hf; cases hf
        exact ⟨xs[i], by rw [hall i f hf]; exact List.getElem?_eq_getElem hi⟩) (by omega)
      simp only [List.drop_zero] at this
      obtain ⟨as, h1, h2, h3⟩ := this
      exact ⟨as, h1, h2, h3⟩
    · rename_i n e ht
      simp only [Bool.and_eq_true, beq_iff_eq] at ho
      obtain ⟨xs, m, rfl, _, hl, hx, hall⟩ := DataW.trod_array ht h
      have := tys_reads fs (cs := cs) (fuel := m) ho.2 (fun i u hu => by
        rw [List.getElem?_map, Option.map_eq_some_iff] at hu
        obtain ⟨j, hj, rfl⟩ := hu
        have hj' : j < n := List.mem_range.1 (List.mem_of_getElem? hj)
        replace hj := hj'
        exact ⟨xs[j], by rw [hall j hj]; exact List.getElem?_eq_getElem (by omega)⟩) (by omega)
      simp only [List.drop_zero] at this
      obtain ⟨as, h1, h2, h3⟩ := this
      exact ⟨as, h1, h2, h3⟩
    · cases ho
theorem tys_reads : ∀ (ts : List Ty) {fuel : Nat} {us : List (TypeId × Nat)} {o : Nat} {cs : List Value}, okL P ts us o = true →
    (∀ (i : Nat) (u : TypeId × Nat), us[i]? = some u → ∃ y, DataW.trod enc P W 0 sp held fuel u.1 ((cs.drop u.2).take (P.cellsOf u.1)) = some y) → cs.length = o + sizes ts →
    ∃ as, Vs (cx0 W θ) as (cs.drop o) ∧ IsL ts as ∧ as.length = sizes ts
  | [], fuel, us, o, cs, _, _, hl => by
    refine ⟨[], ?_, rfl, rfl⟩
    simp only [Vs]
    simp only [sizes] at hl
    exact List.drop_eq_nil_of_le (by omega)
  | t :: ts, fuel, [], o, cs, ho, _, _ => by simp [okL] at ho
  | t :: ts, fuel, u :: us, o, cs, ho, h, hl => by
    simp only [okL, Bool.and_eq_true, beq_iff_eq] at ho
    obtain ⟨⟨⟨h1, h2⟩, h3⟩, h4⟩ := ho
    obtain ⟨y, hy⟩ := h 0 u rfl
    obtain ⟨as, g1, g2, g3⟩ := ty_reads t h1 hy
    simp only [sizes] at hl
    obtain ⟨bs, k1, k2, k3⟩ := tys_reads ts (cs := cs) h4 (fun i u hu => h (i + 1) u hu) (by omega)
    refine ⟨as ++ bs, ?_, ⟨as, bs, rfl, g2, k2⟩, by simp [g3, k3, sizes]⟩
    rw [h2, h3] at g1
    have e : cs.drop o = (cs.drop o).take t.size ++ cs.drop (o + t.size) := by rw [← List.drop_drop, List.take_append_drop]
    rw [e]
    exact Vs_append g1 k1
end
theorem arg_row {fs : List Ty} {t : TypeId} {v : Value} {d : DataW H} {ps : List MemPlace} {base : Nat} {r : Reach} (ho : (Ty.row fs).ok P t = true) (hv : Value.okWide P W r base t v)
    (h : DataW.Trod enc P W 0 sp held t v d ps) : ∃ as, V (cx0 W θ) (.agg as) v ∧ IsL fs as := by
  obtain ⟨fuel, h⟩ := h
  have hagg : ∃ cs, v = .agg cs := by
    simp only [Ty.ok] at ho
    unfold Value.okWide at hv
    split at ho
    · rename_i gs ht
      rw [ht] at hv
      obtain ⟨cs, rfl, _⟩ := hv
      exact ⟨cs, rfl⟩
    · rename_i n e ht
      rw [ht] at hv
      obtain ⟨cs, rfl, _⟩ := hv
      exact ⟨cs, rfl⟩
    · cases ho
  obtain ⟨cs, rfl⟩ := hagg
  obtain ⟨as, h1, h2, _⟩ := ty_reads (θ := θ) (.row fs) ho h
  refine ⟨as, ?_, h2⟩
  simp only [V]
  exact ⟨cs.toList, by simp, h1⟩
theorem arg_one {ty : Ty} {t : TypeId} {v : Value} {d : DataW H} {ps : List MemPlace} {base : Nat} {r : Reach} (hn : ∀ fs, ty ≠ .row fs) (ho : ty.ok P t = true) (hv : Value.okWide P W r base t v)
    (h : DataW.Trod enc P W 0 sp held t v d ps) : ∃ a, V (cx0 W θ) a v ∧ ty.Is [a] := by
  obtain ⟨fuel, h⟩ := h
  have hagg : ∀ cs, v ≠ .agg cs := by
    rintro cs rfl
    unfold Value.okWide at hv
    cases ty with
    | row fs => exact hn fs rfl
    | bool =>
      simp only [Ty.ok] at ho
      split at ho
      · rename_i ht; rw [ht] at hv; simp [Cell.okWide, Cell.ok, ht] at hv
      · cases ho
    | int k =>
      simp only [Ty.ok] at ho
      split at ho
      · rename_i ht; rw [ht] at hv; simp [Cell.okWide, Cell.ok, ht] at hv
      · cases ho
    | str =>
      simp only [Ty.ok] at ho
      split at ho
      · rename_i ht; rw [ht] at hv; simp [Cell.okWide, Cell.ok, ht] at hv
      · cases ho
    | slice e =>
      simp only [Ty.ok] at ho
      split at ho
      · rename_i ht; rw [ht] at hv; simp [Cell.okWide, Cell.ok, ht] at hv
      · cases ho
  have hc : v.cells.toList = [v] := by
    cases v <;> first | rfl | exact (hagg _ rfl).elim
  rw [hc] at h
  obtain ⟨as, h1, h2, h3⟩ := ty_reads (θ := θ) ty ho h
  have : ∃ a, as = [a] := by
    have hl := Vs_length h1
    match as, hl with
    | [a], _ => exact ⟨a, rfl⟩
  obtain ⟨a, rfl⟩ := this
  simp only [Vs] at h1
  obtain ⟨_, _, e, h1, rfl⟩ := h1
  simp only [List.cons.injEq, and_true] at e
  subst e
  exact ⟨a, h1, h2⟩
end
end Go.Am

/- Symbolic values and memory: what a run over lists of any length is seen as; what it means that an idealised state is of such a shape. Generic: over any program. -/
namespace Go.Sy
open Go.Am
inductive SV (T : Nat → Type) where
  | a (v : AVal)
  | i (k : IntKind) (n : Int)
  | b (x : Bool)
  | s (x : List UInt8)
  | agg (cs : List (SV T))
  | tup (cs : List (SV T))
  | iface (t : TypeId) (v : SV T)
  | fn (f : Fn) (first captured : List (SV T))
  | ptr (id off : Nat)
  | ep (id : Nat) (i : Int) (off : Nat)
  | sl (sz id off len cap : Nat) (ex : Bool)
  | R (id : Nat)
  | mapr (id : Nat)
  | fp (cs : List (SV T))
  | tl (n : Nat) (l : List (T n))
  | any
structure Codec where
  T : Nat → Type
  sz : Nat → Nat
  enc : (n : Nat) → T n → List (SV T)
  dec : (n : Nat) → List (SV T) → Option (T n)
  dflt : (n : Nat) → T n
  ofTy : TypeId → Option Nat
  shape : Nat → List (Option Nat)
  flat : Nat → Bool
  bytes : (n : Nat) → Option (List (T n) → List UInt8)
def Codec.at (C : Codec) (n : Nat) (l : List (C.T n)) (i : Int) : C.T n := l.getD i.toNat (C.dflt n)
structure Env where
  β : Nat → Option Nat
  γ : Nat → Option AVal
  ω : Nat → Option Nat
  Fr : Nat → List AVal → Prop
def isSlB : AVal → Bool
  | .nils => true
  | .sl _ _ _ _ _ _ => true
  | .list _ _ _ => true
  | _ => false
variable {C : Codec}
inductive Er (E : Env) : SV C.T → AVal → Prop
  | a (v : AVal) : Er E (.a v) v
  | i (k : IntKind) (n : Int) : Er E (.i k n) (.int k n)
  | b (x : Bool) : Er E (.b x) (.bool x)
  | s (x : List UInt8) : Er E (.s x) (.str x)
  | agg {cs : List (SV C.T)} {as : List AVal} : cs.length = as.length → (∀ (i : Nat) (x : SV C.T) (a : AVal), cs[i]? = some x → as[i]? = some a → Er E x a) → Er E (.agg cs) (.agg as)
  | tup {cs : List (SV C.T)} {as : List AVal} : cs.length = as.length → (∀ (i : Nat) (x : SV C.T) (a : AVal), cs[i]? = some x → as[i]? = some a → Er E x a) → Er E (.tup cs) (.tup as)
  | iface {t : TypeId} {x : SV C.T} {a : AVal} : Er E x a → Er E (.iface t x) (.iface t a)
  | fn {f : Fn} {cs ds : List (SV C.T)} {as bs : List AVal} : cs.length = as.length → (∀ (i : Nat) (x : SV C.T) (a : AVal), cs[i]? = some x → as[i]? = some a → Er E x a) →
      ds.length = bs.length → (∀ (i : Nat) (x : SV C.T) (a : AVal), ds[i]? = some x → bs[i]? = some a → Er E x a) → Er E (.fn f cs ds) (.fn f as bs)
  | ptr {id b off : Nat} : E.β id = some b → Er E (.ptr id off) (.ptr b off)
  | ep {id : Nat} {i : Int} {off z b o len cap : Nat} {ex : Bool} : E.γ id = some (.sl z b o len cap ex) → Er E (.ep id i off) (.ptr b (o + i.toNat * z + off))
  | sl {sz id b off len cap : Nat} {ex : Bool} : E.β id = some b → Er E (.sl sz id off len cap ex) (.sl sz b off len cap ex)
  | R {id : Nat} {a : AVal} : E.γ id = some a → isSlB a = true → Er E (.R id) a
  | mapr {id b : Nat} : E.β id = some b → Er E (.mapr id) (.mapr b)
  | fpI {cs : List (SV C.T)} {as all rest : List AVal} : all = as ++ rest → cs.length = as.length → (∀ (i : Nat) (x : SV C.T) (a : AVal), cs[i]? = some x → as[i]? = some a → Er E x a) → Er E (.fp cs) (.ipt all)
  | fpP {cs : List (SV C.T)} {as all rest : List AVal} {b off : Nat} : E.Fr b all → all.drop off = as ++ rest → cs.length = as.length → (∀ (i : Nat) (x : SV C.T) (a : AVal), cs[i]? = some x → as[i]? = some a → Er E x a) → Er E (.fp cs) (.ptr b off)
  | tlN {n : Nat} : Er E (.tl n []) .nils
  | tlL {n z : Nat} {l : List (C.T n)} {rows : List (List AVal)} {ex : Bool} : z = C.sz n → rows.length = l.length → (∀ (i : Nat) (r : List AVal), rows[i]? = some r → r.length = C.sz n) →
      (∀ (i : Nat) (y : C.T n) (r : List AVal) (j : Nat) (x : SV C.T) (a : AVal), l[i]? = some y → rows[i]? = some r → (C.enc n y)[j]? = some x → r[j]? = some a → Er E x a) → Er E (.tl n l) (.list z rows ex)
  | tlS {n z b off len cap : Nat} {l : List (C.T n)} {as : List AVal} {ex : Bool} : z = C.sz n → len = l.length → E.Fr b as → off + l.length * C.sz n ≤ as.length → l.length ≤ cap →
      (∀ (i : Nat) (y : C.T n) (j : Nat) (x : SV C.T) (a : AVal), l[i]? = some y → (C.enc n y)[j]? = some x → as[off + i * C.sz n + j]? = some a → Er E x a) → Er E (.tl n l) (.sl z b off len cap ex)
  | any {a : AVal} : Er E .any a
def Ers (E : Env) (cs : List (SV C.T)) (as : List AVal) : Prop := cs.length = as.length ∧ ∀ (i : Nat) (x : SV C.T) (a : AVal), cs[i]? = some x → as[i]? = some a → Er E x a
structure Env.le (E E' : Env) : Prop where
  β : ∀ id b, E.β id = some b → E'.β id = some b
  γ : ∀ id a, E.γ id = some a → E'.γ id = some a
  ω : ∀ b r, E.ω b = some r → E'.ω b = some r
  Fr : ∀ b cs, E.Fr b cs → E'.Fr b cs
theorem Env.le.refl (E : Env) : E.le E := ⟨fun _ _ h => h, fun _ _ h => h, fun _ _ h => h, fun _ _ h => h⟩
theorem Env.le.trans {E E' E'' : Env} (h : E.le E') (k : E'.le E'') : E.le E'' :=
  ⟨fun _ _ x => k.β _ _ (h.β _ _ x), fun _ _ x => k.γ _ _ (h.γ _ _ x), fun _ _ x => k.ω _ _ (h.ω _ _ x), fun _ _ x => k.Fr _ _ (h.Fr _ _ x)⟩
theorem Er.mono' {E E' : Env} (hβ : ∀ id b, E.β id = some b → E'.β id = some b) (hγ : ∀ id a, E.γ id = some a → E'.γ id = some a) (hF : ∀ b cs, E.Fr b cs → E'.Fr b cs)
    {x : SV C.T} {a : AVal} (h : Er E x a) : Er E' x a := by
  induction h with
  | a v => exact .a v
  | i k n => exact .i k n
  | b x => exact .b x
  | s x => exact .s x
  | agg hl _ ih => exact .agg hl ih
  | tup hl _ ih => exact .tup hl ih
  | iface _ ih => exact .iface ih
  | fn h1 _ h2 _ ih1 ih2 => exact .fn h1 ih1 h2 ih2
  | ptr h => exact .ptr (hβ _ _ h)
  | ep h => exact .ep (hγ _ _ h)
  | sl h => exact .sl (hβ _ _ h)
  | R h hs => exact .R (hγ _ _ h) hs
  | mapr h => exact .mapr (hβ _ _ h)
  | fpI e hl _ ih => exact .fpI e hl ih
  | fpP hf e hl _ ih => exact .fpP (hF _ _ hf) e hl ih
  | tlN => exact .tlN
  | tlL hz hl hr _ ih => exact .tlL hz hl hr ih
  | tlS hz hl hf ho hc _ ih => exact .tlS hz hl (hF _ _ hf) ho hc ih
  | any => exact .any
theorem Er.mono {E E' : Env} (k : E.le E') {x : SV C.T} {a : AVal} (h : Er E x a) : Er E' x a := h.mono' k.β k.γ k.Fr
theorem Ers.mono {E E' : Env} (k : E.le E') {xs : List (SV C.T)} {as : List AVal} (h : Ers E xs as) : Ers E' xs as := ⟨h.1, fun i x a h1 h2 => (h.2 i x a h1 h2).mono k⟩
theorem Ers.nil {E : Env} : Ers E ([] : List (SV C.T)) [] := ⟨rfl, fun _ _ _ h => by simp at h⟩
theorem Ers.cons {E : Env} {x : SV C.T} {a : AVal} {xs : List (SV C.T)} {as : List AVal} (h : Er E x a) (hs : Ers E xs as) : Ers E (x :: xs) (a :: as) := by
  refine ⟨by simp [hs.1], fun i y b h1 h2 => ?_⟩
  cases i with
  | zero => simp at h1 h2; subst h1 h2; exact h
  | succ i => simp at h1 h2; exact hs.2 i y b h1 h2
theorem Ers.inv_cons {E : Env} {x : SV C.T} {xs : List (SV C.T)} {as : List AVal} (h : Ers E (x :: xs) as) : ∃ a as', as = a :: as' ∧ Er E x a ∧ Ers E xs as' := by
  cases as with
  | nil => simp [Ers] at h
  | cons a as' =>
    refine ⟨a, as', rfl, h.2 0 x a rfl rfl, by simpa using h.1, fun i y b h1 h2 => h.2 (i + 1) y b (by simpa using h1) (by simpa using h2)⟩
theorem Ers.inv_nil {E : Env} {as : List AVal} (h : Ers E ([] : List (SV C.T)) as) : as = [] := by
  cases as with
  | nil => rfl
  | cons a as => simp [Ers] at h
theorem Ers.append {E : Env} {xs ys : List (SV C.T)} {as bs : List AVal} (h : Ers E xs as) (k : Ers E ys bs) : Ers E (xs ++ ys) (as ++ bs) := by
  induction xs generalizing as with
  | nil => rw [h.inv_nil]; exact k
  | cons x xs ih =>
    obtain ⟨a, as', rfl, h1, h2⟩ := h.inv_cons
    exact (ih h2).cons h1
theorem Ers.drop {E : Env} {xs : List (SV C.T)} {as : List AVal} (h : Ers E xs as) (n : Nat) : Ers E (xs.drop n) (as.drop n) :=
  ⟨by simp [h.1], fun i x a h1 h2 => h.2 (n + i) x a (by simpa using h1) (by simpa using h2)⟩
theorem Ers.take {E : Env} {xs : List (SV C.T)} {as : List AVal} (h : Ers E xs as) (n : Nat) : Ers E (xs.take n) (as.take n) := by
  refine ⟨by simp [h.1], fun i x a h1 h2 => ?_⟩
  rw [List.getElem?_take] at h1 h2
  split at h1
  · rename_i hi
    rw [if_pos hi] at h2
    exact h.2 i x a h1 h2
  · cases h1
theorem Ers.get {E : Env} {xs : List (SV C.T)} {as : List AVal} (h : Ers E xs as) {i : Nat} {x : SV C.T} (hx : xs[i]? = some x) : ∃ a, as[i]? = some a ∧ Er E x a := by
  have hl : i < xs.length := by
    rcases Nat.lt_or_ge i xs.length with k | k
    · exact k
    · rw [List.getElem?_eq_none k] at hx; cases hx
  have hl' : i < as.length := by rw [← h.1]; exact hl
  exact ⟨as[i], List.getElem?_eq_getElem hl', h.2 i x _ hx (List.getElem?_eq_getElem hl')⟩
theorem Ers.mapA {E : Env} (as : List AVal) : Ers (C := C) E (as.map .a) as := by
  refine ⟨by simp, fun i x a h1 h2 => ?_⟩
  rw [List.getElem?_map, h2] at h1
  simp only [Option.map_some, Option.some.injEq] at h1
  subst h1
  exact .a a
inductive Obj (T : Nat → Type) where
  | cells (cs : List (SV T))
  | rows (n : Nat) (l : List (T n)) (full : Bool) (root : Nat)
  | mp (es : List (Int × SV T))
  | it (s : List UInt8) (pos : Nat)
abbrev SH (C : Codec) := List (Option (Obj C.T))
def RowsAt (E : Env) (n : Nat) (l : List (C.T n)) (as : List AVal) (off : Nat) : Prop :=
  ∀ (i : Nat) (y : C.T n) (j : Nat) (x : SV C.T) (a : AVal), l[i]? = some y → (C.enc n y)[j]? = some x → as[off + i * C.sz n + j]? = some a → Er E x a
def mpAt (n : Int) : List (AVal × AVal) → Option AVal
  | [] => none
  | (.int .i64 m, v) :: es => if n = m then some v else mpAt n es
  | _ :: es => mpAt n es
structure MpOk (E : Env) (es : List (Int × SV C.T)) (as : List (AVal × AVal)) : Prop where
  keys : ∀ p, p ∈ as → ∃ n, p.1 = .int .i64 n
  nodup : (es.map (·.1)).Nodup
  val : ∀ n x, (n, x) ∈ es → (∃ v, mpAt n as = some v ∧ Er E x v) ∨ (mpAt n as = none ∧ Er E x .nils)
  dom : ∀ n v, mpAt n as = some v → ∃ x, (n, x) ∈ es
theorem MpOk.mono {E E' : Env} (k : E.le E') {es : List (Int × SV C.T)} {as : List (AVal × AVal)} (h : MpOk E es as) : MpOk E' es as :=
  ⟨h.keys, h.nodup, fun n x hx => (h.val n x hx).imp (fun ⟨v, h1, h2⟩ => ⟨v, h1, h2.mono k⟩) (fun ⟨h1, h2⟩ => ⟨h1, h2.mono k⟩), h.dom⟩
def EmptyA (E : Env) (z : Nat) (a : AVal) : Prop := a = .nils ∨ a = .list z [] true
def ObjOk (E : Env) (H : Heap) (id : Nat) : Obj C.T → Prop
  | .cells cs => ∃ b as, E.β id = some b ∧ E.ω b = some id ∧ H[b]? = some (some (.cells as)) ∧ Ers E cs as
  | .mp es => ∃ b as, E.β id = some b ∧ E.ω b = some id ∧ H[b]? = some (some (.mp as)) ∧ MpOk E es as
  | .it s pos => ∃ b, E.β id = some b ∧ E.ω b = some id ∧ H[b]? = some (some (.it s pos))
  | .rows n l full root => (l = [] ∧ E.β id = none ∧ ∃ a, E.γ id = some a ∧ EmptyA E (C.sz n) a) ∨
      ∃ b off cap ex as, E.γ id = some (.sl (C.sz n) b off l.length cap ex) ∧ E.β id = some b ∧ E.ω b = some root ∧ H[b]? = some (some (.cells as)) ∧ l.length ≤ cap ∧ off + cap * C.sz n ≤ as.length ∧
        (ex = true ∨ off + cap * C.sz n = as.length) ∧ (full = true → ex = true ∨ cap = l.length) ∧ RowsAt E n l as off
theorem ObjOk.mono {E E' : Env} (k : E.le E') {H : Heap} {id : Nat} {o : Obj C.T} (hb : E.β id = none → E'.β id = none) (h : ObjOk E H id o) : ObjOk E' H id o := by
  cases o with
  | cells cs =>
    obtain ⟨b, as, h1, hw, h2, h3⟩ := h
    exact ⟨b, as, k.β _ _ h1, k.ω _ _ hw, h2, h3.mono k⟩
  | mp es =>
    obtain ⟨b, as, h1, hw, h2, h3⟩ := h
    exact ⟨b, as, k.β _ _ h1, k.ω _ _ hw, h2, h3.mono k⟩
  | it s pos =>
    obtain ⟨b, h1, hw, h2⟩ := h
    exact ⟨b, k.β _ _ h1, k.ω _ _ hw, h2⟩
  | rows n l full root =>
    rcases h with ⟨h1, h2, a, h3, h4⟩ | ⟨b, off, cap, ex, as, h1, h2, hw, h3, h4, h5, h6, h7, h8⟩
    · refine .inl ⟨h1, hb h2, a, k.γ _ _ h3, ?_⟩
      exact h4
    · exact .inr ⟨b, off, cap, ex, as, k.γ _ _ h1, k.β _ _ h2, k.ω _ _ hw, h3, h4, h5, h6, h7, fun i y j x a q1 q2 q3 => (h8 i y j x a q1 q2 q3).mono k⟩
structure SimH (E : Env) (lo wlo : Nat) (h : SH C) (H : Heap) : Prop where
  obj : ∀ (id : Nat) (o : Obj C.T), h[id]? = some (some o) → ObjOk E H id o
  inj : ∀ (id id' : Nat) (o o' : Obj C.T) (b : Nat), h[id]? = some (some o) → h[id']? = some (some o') → E.β id = some b → E.β id' = some b → id = id'
  fr : ∀ (b : Nat) (cs : List AVal), E.Fr b cs → H[b]? = some (some (.cells cs)) ∧ ∀ (id : Nat) (o : Obj C.T), h[id]? = some (some o) → E.β id ≠ some b
  fresh : ∀ (id : Nat), h.length ≤ id → E.β id = none ∧ E.γ id = none
  low : ∀ (id b : Nat), wlo ≤ id → E.β id = some b → lo ≤ b
  bnd : ∀ (id b : Nat), E.β id = some b → b < H.length
  own : ∀ (b r : Nat), E.ω b = some r → b < H.length ∧ ∀ cs, ¬ E.Fr b cs
  βω : ∀ (id b : Nat), E.β id = some b → ∃ r, E.ω b = some r
  wl : wlo ≤ h.length
  ll : lo ≤ H.length
inductive Tree : Type 1 where
  | ok
  | fork (b : Bool) (x y : Tree)
  | need (p : Prop) (x : Tree)
  | ex (α : Type) (f : α → Tree)
  | all (α : Type) (f : α → Tree)
  | imp (p : Prop) (x : Tree)
  | and (x y : Tree)
  | stuck (why : String)
def Stuck (_ : String) : Prop := False
def Tree.holds : Tree → Prop
  | .ok => True
  | .fork b x y => (b = true → x.holds) ∧ (b = false → y.holds)
  | .need p x => p ∧ x.holds
  | .ex α f => ∃ a : α, (f a).holds
  | .all α f => ∀ a : α, (f a).holds
  | .imp p x => p → x.holds
  | .and x y => x.holds ∧ y.holds
  | .stuck why => Stuck why
theorem stuck_no {s : String} (h : (Tree.stuck s).holds) : False := h
theorem fork_cases {b : Bool} {x y : Tree} (h : (Tree.fork b x y).holds) : (b = true ∧ x.holds) ∨ (b = false ∧ y.holds) := by
  cases b with
  | true => exact .inl ⟨rfl, h.1 rfl⟩
  | false => exact .inr ⟨rfl, h.2 rfl⟩
def opt {α : Type} (x : Option α) (why : String) (K : α → Tree) : Tree :=
  match x with
  | some v => K v
  | none => .stuck why
theorem opt_some {α : Type} {x : Option α} {why : String} {K : α → Tree} (h : (opt x why K).holds) : ∃ v, x = some v ∧ (K v).holds := by
  cases x with
  | some v => exact ⟨v, rfl, h⟩
  | none => exact (stuck_no h).elim
end Go.Sy

/- What each operation does to symbolic values. Generic: over any program. -/
namespace Go.Sy
set_option linter.unusedVariables false
open Go.Am
variable {C : Codec}
structure SR (C : Codec) where
  t : Bt (SV C.T)
  n : Nat
noncomputable def SR.get (r : SR C) (i : Nat) : SV C.T := bif Nat.blt i r.n then (r.t.get i).getD .any else .a undefA
noncomputable def SR.set (r : SR C) (i : Nat) (v : SV C.T) : SR C := bif Nat.blt i r.n then ⟨r.t.set v i, r.n⟩ else r
noncomputable def SR.fill : List (SV C.T) → Nat → SR C → SR C
  | [], _, r => r
  | a :: as, i, r => SR.fill as (i + 1) (r.set i a)
noncomputable def SR.frame (args : List (SV C.T)) (n : Nat) : SR C := SR.fill args 0 ⟨Bt.full (.a undefA) 9, n⟩
noncomputable def SR.only (n : Nat) : List (Nat × SV C.T) → SR C
  | [] => ⟨Bt.full .any 9, n⟩
  | (i, v) :: l => (SR.only n l).set i v
def hget (h : SH C) (id : Nat) : Option (Obj C.T) := match h[id]? with
  | some (some o) => some o
  | _ => none
def cellsS {T : Nat → Type} : SV T → Option (List (SV T))
  | .agg cs => some cs
  | .a (.agg as) => some (as.map .a)
  | .any => none
  | x => some [x]
def oneS {T : Nat → Type} : SV T → Bool
  | .agg _ => false
  | .tup _ => false
  | .any => false
  | .a v => v.one
  | _ => true
def scal {T : Nat → Type} : SV T → Bool
  | .a _ => true
  | .i _ _ => true
  | .b _ => true
  | .s _ => true
  | _ => false
def noId {T : Nat → Type} : SV T → Bool
  | .a _ => true
  | .i _ _ => true
  | .b _ => true
  | .s _ => true
  | .tl _ _ => true
  | _ => false
def liftV {T : Nat → Type} : AVal → SV T
  | .int k n => .i k n
  | .bool b => .b b
  | .str s => .s s
  | v => .a v
def intOf {T : Nat → Type} : SV T → Option (IntKind × Int)
  | .i k n => some (k, n)
  | .a (.int k n) => some (k, n)
  | _ => none
def strOf {T : Nat → Type} : SV T → Option (List UInt8)
  | .s x => some x
  | .a (.str x) => some x
  | _ => none
def boolOf {T : Nat → Type} : SV T → Option Bool
  | .b x => some x
  | .a (.bool x) => some x
  | _ => none
def nkS {T : Nat → Type} : SV T → Option (NK × Bool)
  | .a v => nk v
  | .iface _ _ => some (.i, false)
  | .ptr _ _ => some (.p, false)
  | .ep _ _ _ => some (.p, false)
  | .fp _ => some (.p, false)
  | .sl _ _ _ _ _ _ => some (.s, false)
  | .fn _ _ _ => some (.f, false)
  | .mapr _ => some (.m, false)
  | _ => none
section
variable (P : Program)
def partS {T : Nat → Type} (t : TypeId) (cs : List (SV T)) (off : Nat) : Option (SV T) :=
  match P.underlying t with
  | some (.struct _) | some (.array _ _) =>
    if off + szOf P t ≤ cs.length then some (.agg ((cs.drop off).take (szOf P t))) else none
  | some _ => cs[off]?
  | none => none
def chain (j : Int) (K : Nat → Tree) : Nat → Tree
  | 0 => .stuck "no such place"
  | 1 => K 0
  | m + 2 => .fork (j == ((m + 1 : Nat) : Int)) (K (m + 1)) (chain j K (m + 1))
def idxK {T : Nat → Type} (x : SV T) (len : Nat) (K : Nat → Tree) : Tree :=
  match x with
  | .a (.int _ n) => match n with
    | .ofNat m => bif Nat.blt m len then K m else .stuck "a place behind the end"
    | _ => .stuck "a place below nothing"
  | .i _ n => .need (0 ≤ n ∧ n < (len : Int)) (chain n K len)
  | _ => .stuck "a place that is no number"
def divS {T : Nat → Type} (op : BinOp) (k : IntKind) (m n : Int) (lit : Bool) (K : SV T → Tree) : Tree :=
  bif lit then
    match n with
    | .ofNat 0 => .stuck "division by nothing"
    | _ => match op with
      | .quo => K (.i k (k.wrap (m.tdiv n)))
      | _ => K (.i k (m.tmod n))
  else .need (n ≠ 0) (match op with
      | .quo => K (.i k (k.wrap (m.tdiv n)))
      | _ => K (.i k (m.tmod n)))
def shS {T : Nat → Type} (op : BinOp) (k : IntKind) (m n : Int) (K : SV T → Tree) : Tree :=
  .need (0 ≤ n) (match op with
    | .shl => K (.i k (k.wrap (m * 2 ^ (min n.toNat k.bits))))
    | _ => K (.i k (m.fdiv (2 ^ (min n.toNat k.bits)))))
def isLit {T : Nat → Type} : SV T → Bool
  | .a _ => true
  | _ => false
def intBinS {T : Nat → Type} (op : BinOp) (k k' : IntKind) (m n : Int) (lit : Bool) (K : SV T → Tree) : Tree :=
  match op with
  | .shl => shS .shl k m n K
  | .shr => shS .shr k m n K
  | .quo => if k = k' then divS .quo k m n lit K else .stuck "kinds"
  | .rem => if k = k' then divS .rem k m n lit K else .stuck "kinds"
  | op => if k = k' then opt (intBin op k m n) "no such operation" fun v => K (liftV v) else .stuck "kinds"
def strBinS {T : Nat → Type} (op : BinOp) (x y : List UInt8) (K : SV T → Tree) : Tree :=
  match op with
  | .add => .need (((x.length + y.length : Nat) : Int) ≤ IntKind.i64.max) (K (.s (x ++ y)))
  | op => opt (strBin op x y) "no such operation" fun v => K (liftV v)
def boolBinS {T : Nat → Type} (op : BinOp) (t : TypeId) (x y : Bool) (K : SV T → Tree) : Tree :=
  bif boolB P t then
    match op with
    | .eql => K (.b (x == y))
    | .neq => K (.b (!(x == y)))
    | _ => .stuck "no such operation"
  else .stuck "no truth"
def nilBinS {T : Nat → Type} (op : BinOp) (t : TypeId) (lit : Bool) (x y : NK × Bool) (K : SV T → Tree) : Tree :=
  if x.1 = y.1 ∧ (x.2 = true ∨ y.2 = true) ∧ nkOk P t x.1 = true ∧ (lit = true ∨ x.1 ≠ .i ∨ x.2 = false ∨ y.2 = false) then
    match op with
    | .eql => K (.a (.bool (x.2 && y.2)))
    | .neq => K (.a (.bool (!(x.2 && y.2))))
    | _ => .stuck "no such operation"
  else .stuck "nil"
def toA {T : Nat → Type} : SV T → Option AVal
  | .a v => some v
  | .i k n => some (.int k n)
  | .b x => some (.bool x)
  | .s x => some (.str x)
  | _ => none
def toAs {T : Nat → Type} : List (SV T) → Option (List AVal)
  | [] => some []
  | x :: xs => match toA x, toAs xs with
    | some a, some l => some (a :: l)
    | _, _ => none
def aggA {T : Nat → Type} : SV T → Option (List AVal)
  | .agg cs => toAs cs
  | .a (.agg l) => some l
  | _ => none
def tlNilS {T : Nat → Type} (op : BinOp) (t : TypeId) (lit : Bool) (x y : SV T) (K : SV T → Tree) : Tree :=
  match x, y with
  | .tl n l, .a .nils => .all Bool fun b => .imp (b = true → l = []) (nilBinS P op t lit (.s, b) (.s, true) fun (v : SV T) => match v with
    | .a (.bool r) => K (.b r)
    | _ => .stuck "nil")
  | _, _ => .stuck "binop"
def binS {T : Nat → Type} (op : BinOp) (t : TypeId) (lit : Bool) (x y : SV T) (K : SV T → Tree) : Tree :=
  bif isLit x && isLit y then
    match x, y with
    | .a (.iface t1 v), .a (.iface t2 w) => opt (binA P op t lit (.iface t1 v) (.iface t2 w)) "binop" fun r => K (liftV r)
    | .a v, .a w => opt (binA P op t lit v w) "binop" fun r => K (.a r)
    | _, _ => .stuck ""
  else
    match intOf x, intOf y with
    | some (k, m), some (k', n) => intBinS op k k' m n (isLit y) K
    | _, _ => match strOf x, strOf y with
      | some s, some s' => strBinS op s s' K
      | _, _ => match boolOf x, boolOf y with
        | some b, some b' => boolBinS P op t b b' K
        | _, _ => match nkS x, nkS y with
          | some p, some q => nilBinS P op t lit p q K
          | _, _ => match aggA x, aggA y with
            | some l, some l' => opt (binA P op t lit (.agg l) (.agg l')) "binop" fun r => K (liftV r)
            | _, _ => tlNilS P op t lit x y K
def unS {T : Nat → Type} (op : UnOp) (x : SV T) (K : SV T → Tree) : Tree :=
  match x with
  | .a v => opt (unA op v) "unop" fun r => K (.a r)
  | .i k n => opt (unA op (.int k n)) "unop" fun r => K (liftV r)
  | .b t => opt (unA op (.bool t)) "unop" fun r => K (liftV r)
  | _ => .stuck "unop"
def fieldAddrS {T : Nat → Type} (t : TypeId) (x : SV T) (f : Nat) (K : SV T → Tree) : Tree :=
  match P.underlying t with
  | some (.struct fs) =>
    match fs[f]? with
    | some fd =>
      if (P.info? fd.type).isSome ∧ szOf P fd.type ≠ 0 then
        match x with
        | .ptr id off => K (.ptr id (off + fd.offset))
        | .ep id i off => K (.ep id i (off + fd.offset))
        | .fp cs => if fd.offset ≤ cs.length then K (.fp (cs.drop fd.offset)) else .stuck "fieldAddr"
        | .a (.ipt cs) => K (.a (.ipt (cs.drop fd.offset)))
        | .a (.eptr _ cs) => K (.a (.ipt (cs.drop fd.offset)))
        | _ => .stuck "fieldAddr"
      else .stuck "fieldAddr"
    | none => .stuck "fieldAddr"
  | _ => .stuck "fieldAddr"
def fieldS {T : Nat → Type} (t : TypeId) (x : SV T) (f : Nat) (K : SV T → Tree) : Tree :=
  match P.underlying t with
  | some (.struct fs) =>
    match fs[f]? with
    | some fd => if (P.info? fd.type).isSome then
        match x with
        | .agg cs => opt (partS P fd.type cs fd.offset) "field" K
        | .a (.agg as) => opt (partA P fd.type as fd.offset) "field" fun v => K (.a v)
        | _ => .stuck "field"
      else .stuck "field"
    | none => .stuck "field"
  | _ => .stuck "field"
def indexAddrS (t : TypeId) (h : SH C) (x i : SV C.T) (K : SV C.T → Tree) : Tree :=
  match P.underlying t with
  | some (.array len e) =>
    if (P.info? e).isSome then
      match x with
      | .ptr id off => idxK i len fun j => K (.ptr id (off + j * szOf P e))
      | .fp cs => idxK i len fun j => if j * szOf P e ≤ cs.length then K (.fp (cs.drop (j * szOf P e))) else .stuck "indexAddr"
      | .a (.ipt cs) => idxK i len fun j => K (.a (.ipt (cs.drop (j * szOf P e))))
      | _ => .stuck "indexAddr"
    else .stuck "indexAddr"
  | some (.slice e) =>
    if (P.info? e).isSome then
      match x with
      | .tl n l => if C.sz n = szOf P e then
          match intOf i with
          | some (_, j) => .need (0 ≤ j ∧ j < (l.length : Int)) (K (.fp (C.enc n (C.at n l j))))
          | none => .stuck "indexAddr"
        else .stuck "indexAddr"
      | .R id => match hget h id with
        | some (.rows n l _ _) => if C.sz n = szOf P e then
            match intOf i with
            | some (_, j) => .need (0 ≤ j ∧ j < (l.length : Int)) (K (.ep id j 0))
            | none => .stuck "indexAddr"
          else .stuck "indexAddr"
        | _ => .stuck "indexAddr: gone"
      | .sl sz id off len _ _ => if sz = szOf P e then idxK i len fun j => K (.ptr id (off + j * sz)) else .stuck "indexAddr"
      | .a (.list sz rows ex) => if sz = szOf P e then idxK i rows.length fun j => opt (rows[j]?) "indexAddr" fun r => K (.a (.ipt r)) else .stuck "indexAddr"
      | _ => .stuck "indexAddr"
    else .stuck "indexAddr"
  | _ => .stuck "indexAddr"
def indexS {T : Nat → Type} (t : TypeId) (x i : SV T) (K : SV T → Tree) : Tree :=
  match P.underlying t with
  | some (.array len e) =>
    if (P.info? e).isSome then
      match x with
      | .agg cs => idxK i len fun j => opt (partS P e cs (j * szOf P e)) "index" K
      | .a (.agg as) => idxK i len fun j => opt (partA P e as (j * szOf P e)) "index" fun v => K (.a v)
      | _ => .stuck "index"
    else .stuck "index"
  | some .string =>
    match x, i with
    | .a (.str s), .a (.int _ n) => match n with
      | .ofNat m => opt (s[m]?) "index" fun b => K (.a (.int .u8 b.toNat))
      | _ => .stuck "index"
    | _, _ =>
      match strOf x, intOf i with
      | some s, some (_, j) => .need (0 ≤ j ∧ j < (s.length : Int)) (K (.i .u8 ((s.getD j.toNat 0).toNat)))
      | _, _ => .stuck "index"
  | _ => .stuck "index"
def lenS (t : TypeId) (h : SH C) (x : SV C.T) (K : SV C.T → Tree) : Tree :=
  match P.underlying t with
  | some .string => match x with
    | .a (.str s) => K (.a (.int .i64 s.length))
    | .s s => K (.i .i64 s.length)
    | _ => .stuck "len"
  | some (.array n _) => match x with
    | .mapr _ => .stuck "len"
    | .any => .stuck "len"
    | .a (.mapr _) => .stuck "len"
    | _ => K (.a (.int .i64 n))
  | some (.slice _) => match x with
    | .a .nils => K (.a (.int .i64 0))
    | .a (.list _ rows _) => K (.a (.int .i64 rows.length))
    | .sl _ _ _ len _ _ => K (.a (.int .i64 len))
    | .tl _ l => K (.i .i64 l.length)
    | .R id => match hget h id with
      | some (.rows _ l _ _) => K (.i .i64 l.length)
      | _ => .stuck "len: gone"
    | _ => .stuck "len"
  | _ => .stuck "len"
def loadS (t : TypeId) (h : SH C) (x : SV C.T) (K : SV C.T → Tree) : Tree :=
  match x with
  | .ptr id off => match hget h id with
    | some (.cells cs) => if off ≤ cs.length then opt (partS P t (cs.drop off) 0) "load" K else .stuck "load"
    | _ => .stuck "load: gone"
  | .ep id i off => match hget h id with
    | some (.rows n l _ _) => .need (0 ≤ i ∧ i < (l.length : Int)) (if off ≤ C.sz n then opt (partS P t ((C.enc n (C.at n l i)).drop off) 0) "load" K else .stuck "load")
    | _ => .stuck "load: gone"
  | .fp cs => opt (partS P t cs 0) "load" K
  | .a (.ipt cs) => opt (partA P t cs 0) "load" fun v => K (.a v)
  | .a (.eptr _ cs) => opt (partA P t cs 0) "load" fun v => K (.a v)
  | _ => .stuck "load"
def litV {T : Nat → Type} : SV T → Option AVal
  | .a v => some v
  | .i k n => some (.int k n)
  | .b t => some (.bool t)
  | .s x => some (.str x)
  | .iface t (.a v) => some (.iface t v)
  | _ => none
def bytesS {T : Nat → Type} : List (SV T) → Option (List UInt8)
  | [] => some []
  | x :: xs => match intOf x with
    | some (.u8, n) => (bytesS xs).map (UInt8.ofNat n.toNat :: ·)
    | _ => none
def byteR (C : Codec) (n : Nat) (y : C.T n) : UInt8 := match C.enc n y with
  | [x] => match intOf x with
    | some (_, m) => UInt8.ofNat m.toNat
    | none => 0
  | _ => 0
def convS (s d : TypeId) (h : SH C) (x : SV C.T) (K : SV C.T → Tree) : Tree :=
  match x with
  | .a v => opt (convHA P s d [] v) "convert" fun r => K (.a r)
  | .i _ n => match P.underlying s, P.underlying d with
    | some _, some (.int k) => K (.i k (k.wrap n))
    | _, _ => .stuck "convert"
  | .s x => match P.underlying s, P.underlying d with
    | some _, some .string => K (.s x)
    | _, _ => .stuck "convert"
  | .sl sz id off len _ _ => match P.underlying s, P.underlying d, hget h id with
    | some (.slice e), some .string, some (.cells cs) => match P.underlying e with
      | some (.int .u8) => if sz = 1 ∧ off + len ≤ cs.length then
          match bytesS ((cs.drop off).take len) with
          | some b => K (.s b)
          | none => .stuck "convert: bytes"
        else .stuck "convert"
      | _ => .stuck "convert"
    | _, _, _ => .stuck "convert"
  | .R id => match P.underlying s, P.underlying d, hget h id with
    | some (.slice e), some .string, some (.rows n l _ _) => match P.underlying e with
      | some (.int .u8) => if C.sz n = 1 then .need (∀ y, y ∈ l → ∃ x m, C.enc n y = [x] ∧ intOf x = some (.u8, m)) (K (.s (l.map (byteR C n)))) else .stuck "convert: rows"
      | _ => .stuck "convert"
    | _, _, _ => .stuck "convert"
  | _ => .stuck "convert"
def typeAssertS {T : Nat → Type} (x : SV T) (t : TypeId) (ok : Bool) (K : SV T → Tree) : Tree :=
  match x with
  | .a v => opt (typeAssertA P v t ok) "typeAssert" fun r => K (.a r)
  | .iface u v =>
    match P.underlying t with
    | some (.interface want) =>
      match P.info? u with
      | some i =>
        if lacksA want i.methods then (if ok then opt (zeroA P t) "typeAssert" fun z => K (.tup [.a z, .a (.bool false)]) else .stuck "typeAssert")
        else K (if ok then .tup [.iface u v, .a (.bool true)] else .iface u v)
      | none => .stuck "typeAssert"
    | some _ =>
      if u = t then K (if ok then .tup [v, .a (.bool true)] else v)
      else if ok then opt (zeroA P t) "typeAssert" fun z => K (.tup [.a z, .a (.bool false)]) else .stuck "typeAssert"
    | none => .stuck "typeAssert"
  | _ => .stuck "typeAssert"
def fillS {T : Nat → Type} (place : Nat → Option (Nat × Nat)) (cells : List (SV T)) : List (Nat × SV T) → Option (List (SV T))
  | [] => some cells
  | (i, v) :: rest =>
    match place i with
    | none => none
    | some (off, size) =>
      match cellsS v with
      | none => none
      | some vs => if vs.length ≠ size ∨ off + vs.length > cells.length ∨ !vs.all oneS then none
        else fillS place (cells.take off ++ vs ++ cells.drop (off + vs.length)) rest
def buildS {T : Nat → Type} (t : TypeId) (parts : List (Nat × SV T)) (K : SV T → Tree) : Tree :=
  match zeroA P t with
  | none => .stuck "build"
  | some z =>
    if !z.cells.all AVal.one then .stuck "build" else
    match P.underlying t with
    | some (.struct fs) =>
      if fs.all (fun f => (P.info? f.type).isSome) then opt (fillS (fun i => (fs[i]?).map fun f => (f.offset, szOf P f.type)) (z.cells.map .a) parts) "build" fun cs => K (.agg cs) else .stuck "build"
    | some (.array _ e) => if (P.info? e).isSome then opt (fillS (fun i => some (i * szOf P e, szOf P e)) (z.cells.map .a) parts) "build" fun cs => K (.agg cs) else .stuck "build"
    | _ => .stuck "build"
end
def sEval {C : Codec} (S : AStat) (g : Nat → SV C.T) : Operand → SV C.T
  | .tmp t => g t
  | .const v => .a (constA v)
  | .global x => match S.glob x with
    | some cs => .a (.ipt cs)
    | none => .any
  | .func f => .a (.fn (.func f) [] [])
end Go.Sy

/- The quiet operations on symbolic values are sound. Generic: over any program. -/
namespace Go.Sy
open Go.Am
set_option linter.unusedVariables false
variable {C : Codec} {E : Env}
def Ret (E : Env) (r : Option AVal) (K : SV C.T → Tree) : Prop := ∃ v sv, r = some v ∧ Er E sv v ∧ (K sv).holds
theorem Er.lift (v : AVal) : Er (C := C) E (liftV v) v := by
  cases v <;> simp only [liftV] <;> constructor
theorem cellsS_ok {x : SV C.T} {a : AVal} {cs : List (SV C.T)} (h : Er E x a) (hc : cellsS x = some cs) : Ers E cs a.cells := by
  have one : ∀ {x : SV C.T} {a : AVal}, Er E x a → (∀ as, a ≠ .agg as) → Ers E [x] a.cells := by
    intro x a h ha
    have : a.cells = [a] := by cases a <;> first | rfl | exact (ha _ rfl).elim
    rw [this]
    exact Ers.nil.cons h
  cases h with
  | a =>
    cases a <;> simp only [cellsS, Option.some.injEq] at hc <;> subst hc <;> first
      | exact Ers.mapA _
      | exact Ers.nil.cons (.a _)
  | agg hl hr =>
    simp only [cellsS, Option.some.injEq] at hc
    subst hc
    exact ⟨hl, hr⟩
  | any => cases hc
  | R h hs =>
    simp only [cellsS, Option.some.injEq] at hc
    subst hc
    exact one (.R h hs) (fun as e => by subst e; simp [isSlB] at hs)
  | tup hl hr => simp only [cellsS, Option.some.injEq] at hc; subst hc; exact one (.tup hl hr) (by intro as e; cases e)
  | fn h1 h2 h3 h4 => simp only [cellsS, Option.some.injEq] at hc; subst hc; exact one (.fn h1 h2 h3 h4) (by intro as e; cases e)
  | tlL h1 h2 h3 h4 => simp only [cellsS, Option.some.injEq] at hc; subst hc; exact one (.tlL h1 h2 h3 h4) (by intro as e; cases e)
  | tlS h1 h2 h3 h4 h5 h6 => simp only [cellsS, Option.some.injEq] at hc; subst hc; exact one (.tlS h1 h2 h3 h4 h5 h6) (by intro as e; cases e)
  | fpI h1 h2 h3 => simp only [cellsS, Option.some.injEq] at hc; subst hc; exact one (.fpI h1 h2 h3) (by intro as e; cases e)
  | fpP h1 h2 h3 h4 => simp only [cellsS, Option.some.injEq] at hc; subst hc; exact one (.fpP h1 h2 h3 h4) (by intro as e; cases e)
  | tlN => simp only [cellsS, Option.some.injEq] at hc; subst hc; exact one .tlN (by intro as e; cases e)
  | i k n => simp only [cellsS, Option.some.injEq] at hc; subst hc; exact one (.i k n) (by intro as e; cases e)
  | b k => simp only [cellsS, Option.some.injEq] at hc; subst hc; exact one (.b k) (by intro as e; cases e)
  | s k => simp only [cellsS, Option.some.injEq] at hc; subst hc; exact one (.s k) (by intro as e; cases e)
  | iface k => simp only [cellsS, Option.some.injEq] at hc; subst hc; exact one (.iface k) (by intro as e; cases e)
  | ptr k => simp only [cellsS, Option.some.injEq] at hc; subst hc; exact one (.ptr k) (by intro as e; cases e)
  | ep k => simp only [cellsS, Option.some.injEq] at hc; subst hc; exact one (.ep k) (by intro as e; cases e)
  | sl k => simp only [cellsS, Option.some.injEq] at hc; subst hc; exact one (.sl k) (by intro as e; cases e)
  | mapr k => simp only [cellsS, Option.some.injEq] at hc; subst hc; exact one (.mapr k) (by intro as e; cases e)
theorem oneS_ok {x : SV C.T} {a : AVal} (h : Er E x a) (hc : oneS x = true) : a.one = true := by
  cases h <;> simp only [oneS] at hc <;> first
    | rfl
    | exact hc
    | (cases hc; done)
    | (rename_i hs
       cases a <;> simp only [isSlB] at hs <;> first | rfl | (cases hs; done))
theorem oneS_all {xs : List (SV C.T)} {as : List AVal} (h : Ers E xs as) (hc : xs.all oneS = true) : as.all AVal.one = true := by
  rw [List.all_eq_true] at hc ⊢
  intro a ha
  obtain ⟨i, hi⟩ := List.mem_iff_getElem?.1 ha
  have hl : i < xs.length := by
    rw [h.1]
    rcases Nat.lt_or_ge i as.length with k | k
    · exact k
    · rw [List.getElem?_eq_none k] at hi; cases hi
  exact oneS_ok (h.2 i _ a (List.getElem?_eq_getElem hl) hi) (hc _ (List.getElem_mem hl))
section
variable {P : Program}
theorem partS_ok {t : TypeId} {cs : List (SV C.T)} {as rest : List AVal} {off : Nat} {x : SV C.T} (h : Ers E cs as) (hx : partS P t cs off = some x) : ∃ a, partA P t (as ++ rest) off = some a ∧ Er E x a := by
  unfold partS at hx
  unfold partA
  have aggr : ∀ {z : Nat}, (if off + z ≤ cs.length then some (SV.agg ((cs.drop off).take z)) else none) = some x →
      ∃ a, (if off + z ≤ (as ++ rest).length then some (AVal.agg (((as ++ rest).drop off).take z)) else none) = some a ∧ Er E x a := by
    intro z hx
    split at hx
    · rename_i hle
      simp only [Option.some.injEq] at hx
      subst hx
      have hl := h.1
      rw [if_pos (by simp; omega)]
      refine ⟨_, rfl, ?_⟩
      rw [List.drop_append_of_le_length (by omega), List.take_append_of_le_length (by simp; omega)]
      have := (h.drop off).take z
      exact .agg this.1 this.2
    · cases hx
  split at hx
  · rename_i hu
    rw [hu]
    exact aggr hx
  · rename_i hu
    rw [hu]
    exact aggr hx
  · rename_i h1 h2 hu
    rw [hu]
    obtain ⟨a, ha, hr⟩ := h.get hx
    have hlt : off < as.length := by
      rcases Nat.lt_or_ge off as.length with k | k
      · exact k
      · rw [List.getElem?_eq_none k] at ha; cases ha
    have ha' : (as ++ rest)[off]? = some a := by rw [List.getElem?_append_left hlt]; exact ha
    split
    · rename_i e; exact (h1 _ (Option.some.inj e)).elim
    · rename_i e; exact (h2 _ _ (Option.some.inj e)).elim
    · exact ⟨a, ha', hr⟩
    · rename_i e; cases e
  · cases hx
theorem partS_ok' {t : TypeId} {cs : List (SV C.T)} {as : List AVal} {off : Nat} {x : SV C.T} (h : Ers E cs as) (hx : partS P t cs off = some x) : ∃ a, partA P t as off = some a ∧ Er E x a := by
  obtain ⟨a, h1, h2⟩ := partS_ok (rest := []) h hx
  rw [List.append_nil] at h1
  exact ⟨a, h1, h2⟩
theorem chain_ok {j : Int} {K : Nat → Tree} : ∀ {n : Nat}, (chain j K n).holds → 0 ≤ j → j < (n : Int) → ∃ m : Nat, j = m ∧ m < n ∧ (K m).holds
  | 0, h, _, _ => (stuck_no h).elim
  | 1, h, h0, h1 => ⟨0, by omega, by omega, h⟩
  | m + 2, h, h0, h1 => by
    rcases fork_cases h with ⟨h2, h3⟩ | ⟨h2, h3⟩
    · exact ⟨m + 1, by simpa using h2, by omega, h3⟩
    · have hne : j ≠ ((m + 1 : Nat) : Int) := by simpa using h2
      obtain ⟨k, h4, h5, h6⟩ := chain_ok h3 h0 (by omega)
      exact ⟨k, h4, by omega, h6⟩
theorem idxK_ok {x : SV C.T} {a : AVal} {len : Nat} {K : Nat → Tree} (h : Er E x a) (hk : (idxK x len K).holds) : ∃ j, idxA a = some j ∧ j < len ∧ (K j).holds := by
  unfold idxK at hk
  split at hk
  · cases h
    split at hk
    · rename_i m
      cases hb : Nat.blt m len with
      | true =>
        rw [hb] at hk
        exact ⟨m, by simp [idxA], by rw [Nat.blt_eq] at hb; exact hb, hk⟩
      | false => rw [hb] at hk; exact (stuck_no hk).elim
    · exact (stuck_no hk).elim
  · cases h
    obtain ⟨⟨h1, h2⟩, h3⟩ := hk
    obtain ⟨m, rfl, h4, h5⟩ := chain_ok h3 h1 h2
    exact ⟨m, by simp [idxA], h4, h5⟩
  · exact (stuck_no hk).elim
theorem intOf_ok {x : SV C.T} {a : AVal} {k : IntKind} {n : Int} (h : Er E x a) (hk : intOf x = some (k, n)) : a = .int k n := by
  cases h <;> simp only [intOf] at hk <;> first
    | (cases hk; rfl)
    | (cases hk; done)
    | (cases a <;> simp only at hk <;> first | (cases hk; rfl) | (cases hk; done))
theorem strOf_ok {x : SV C.T} {a : AVal} {s : List UInt8} (h : Er E x a) (hk : strOf x = some s) : a = .str s := by
  cases h <;> simp only [strOf] at hk <;> first
    | (cases hk; rfl)
    | (cases hk; done)
    | (cases a <;> simp only at hk <;> first | (cases hk; rfl) | (cases hk; done))
theorem boolOf_ok {x : SV C.T} {a : AVal} {s : Bool} (h : Er E x a) (hk : boolOf x = some s) : a = .bool s := by
  cases h <;> simp only [boolOf] at hk <;> first
    | (cases hk; rfl)
    | (cases hk; done)
    | (cases a <;> simp only at hk <;> first | (cases hk; rfl) | (cases hk; done))
theorem litV_ok {x : SV C.T} {a v : AVal} (h : Er E x a) (e : litV x = some v) : a = v := by
  unfold litV at e
  split at e <;> first
    | (cases h; cases e; rfl)
    | (cases e; done)
    | skip
  cases e
  cases h with
  | iface h => cases h; rfl
theorem nkS_ok {x : SV C.T} {a : AVal} {p : NK × Bool} (h : Er E x a) (hk : nkS x = some p) : nk a = some p := by
  cases h <;> simp only [nkS] at hk <;> first
    | exact hk
    | (cases hk; done)
theorem divS_ok {op : BinOp} {k : IntKind} {m n : Int} {lit : Bool} {K : SV C.T → Tree} (h : (divS op k m n lit K).holds) (ho : op = .quo ∨ op = .rem) : Ret E (intBin op k m n) K := by
  unfold divS at h
  have key : n ≠ 0 → (match op with
      | .quo => K (.i k (k.wrap (m.tdiv n)))
      | _ => K (.i k (m.tmod n))).holds → Ret E (intBin op k m n) K := by
    intro hn h
    rcases ho with rfl | rfl
    · exact ⟨_, _, by simp [intBin, hn], .i _ _, h⟩
    · exact ⟨_, _, by simp [intBin, hn], .i _ _, h⟩
  cases lit with
  | true =>
    simp only [cond_true] at h
    split at h
    · exact (stuck_no h).elim
    · rename_i hn
      refine key (fun e => ?_) h
      subst e
      exact hn rfl
  | false =>
    simp only [cond_false] at h
    exact key h.1 h.2
theorem intBinS_ok {op : BinOp} {k k' : IntKind} {m n : Int} {lit : Bool} {t : TypeId} {l : Bool} {K : SV C.T → Tree} (h : (intBinS op k k' m n lit K).holds) : Ret E (binA P op t l (.int k m) (.int k' n)) K := by
  have gen : ∀ {op : BinOp}, (∀ k m n, binA P op t l (.int k m) (.int k' n) = if k = k' then intBin op k m n else none) → (if k = k' then opt (intBin op k m n) "no such operation" fun v => K (liftV v) else Tree.stuck "kinds").holds → Ret E (binA P op t l (.int k m) (.int k' n)) K := by
    intro op he h
    rw [he]
    split at h
    · rename_i hk
      rw [if_pos hk]
      obtain ⟨v, h1, h2⟩ := opt_some h
      exact ⟨v, _, h1, .lift v, h2⟩
    · exact (stuck_no h).elim
  have dv : ∀ {op : BinOp}, (op = .quo ∨ op = .rem) → (∀ k m n, binA P op t l (.int k m) (.int k' n) = if k = k' then intBin op k m n else none) → (if k = k' then divS op k m n lit K else Tree.stuck "kinds").holds → Ret E (binA P op t l (.int k m) (.int k' n)) K := by
    intro op ho he h
    rw [he]
    split at h
    · rename_i hk
      rw [if_pos hk]
      exact divS_ok h ho
    · exact (stuck_no h).elim
  cases op <;> simp only [intBinS] at h <;> first
    | exact gen (fun _ _ _ => rfl) h
    | exact dv (.inl rfl) (fun _ _ _ => rfl) h
    | exact dv (.inr rfl) (fun _ _ _ => rfl) h
    | (simp only [shS] at h
       obtain ⟨h1, h2⟩ := h
       refine ⟨_, _, ?_, .i _ _, h2⟩
       simp only [binA, shiftA]
       rw [if_neg (by omega)])
theorem strBinS_ok {op : BinOp} {x y : List UInt8} {t : TypeId} {l : Bool} {K : SV C.T → Tree} (h : (strBinS op x y K).holds) : Ret E (binA P op t l (.str x) (.str y)) K := by
  have gen : ∀ {op : BinOp}, binA P op t l (.str x) (.str y) = strBin op x y → (opt (strBin op x y) "no such operation" fun v => K (liftV v)).holds → Ret E (binA P op t l (.str x) (.str y)) K := by
    intro op he h
    rw [he]
    obtain ⟨v, h1, h2⟩ := opt_some h
    exact ⟨v, _, h1, .lift v, h2⟩
  cases op <;> simp only [strBinS] at h <;> first
    | exact gen rfl h
    | (obtain ⟨h1, h2⟩ := h
       refine ⟨_, _, ?_, .s _, h2⟩
       simp only [binA, strBin]
       rw [if_neg (by omega)])
theorem boolBinS_ok {op : BinOp} {x y : Bool} {t : TypeId} {l : Bool} {K : SV C.T → Tree} (h : (boolBinS P op t x y K).holds) : Ret E (binA P op t l (.bool x) (.bool y)) K := by
  unfold boolBinS at h
  cases hb : boolB P t with
  | false => rw [hb] at h; exact (stuck_no h).elim
  | true =>
    rw [hb] at h
    simp only [cond_true] at h
    cases op <;> first
      | exact (stuck_no h).elim
      | exact ⟨_, _, by simp [binA, eqA, hb], .b _, h⟩
theorem eqA_nk {t : TypeId} {l : Bool} {x y : AVal} {p q : NK × Bool} (hx : nk x = some p) (hy : nk y = some q) (hc : p.1 = q.1 ∧ (p.2 = true ∨ q.2 = true) ∧ nkOk P t p.1 = true ∧ (l = true ∨ p.1 ≠ .i ∨ p.2 = false ∨ q.2 = false)) : eqA P t l x y = some (p.2 && q.2) := by
  obtain ⟨k1, n1⟩ := p
  obtain ⟨k2, n2⟩ := q
  unfold eqA
  split
  · cases hx
  · cases hx
  · rename_i u a v b
    simp only [nk, Option.some.injEq, Prod.mk.injEq] at hx hy
    obtain ⟨rfl, rfl⟩ := hx
    obtain ⟨rfl, rfl⟩ := hy
    simp at hc
  · rw [hx, hy]
    simp only
    rw [if_pos hc]
theorem nilBinS_ok {op : BinOp} {x y : AVal} {p q : NK × Bool} {t : TypeId} {l : Bool} {K : SV C.T → Tree} (hx : nk x = some p) (hy : nk y = some q) (h : (nilBinS P op t l p q K).holds) : Ret E (binA P op t l x y) K := by
  unfold nilBinS at h
  split at h
  · rename_i hc
    have he := eqA_nk hx hy hc
    have hni : ∀ k n, x ≠ .int k n := fun k n e => by subst e; cases hx
    have hns : ∀ s, x ≠ .str s := fun s e => by subst e; cases hx
    cases op <;> first
      | exact (stuck_no h).elim
      | (refine ⟨_, _, ?_, .a _, h⟩
         unfold binA
         split
         · exact (hni _ _ rfl).elim
         · exact (hns _ rfl).elim
         · simp only [he, Option.map_some])
  · exact (stuck_no h).elim
theorem toA_ok {x : SV C.T} {a v : AVal} (h : Er E x a) (hk : toA x = some v) : a = v := by
  cases h <;> simp only [toA] at hk <;> first
    | (cases hk; done)
    | (simp only [Option.some.injEq] at hk; exact hk)
theorem toAs_ok : ∀ {cs : List (SV C.T)} {l vs : List AVal}, cs.length = l.length → (∀ (i : Nat) (x : SV C.T) (a : AVal), cs[i]? = some x → l[i]? = some a → Er E x a) → toAs cs = some vs → l = vs
  | [], l, vs, hl, _, hk => by
    simp only [toAs, Option.some.injEq] at hk
    subst hk
    exact List.length_eq_zero_iff.1 hl.symm
  | x :: cs, [], vs, hl, _, _ => by simp at hl
  | x :: cs, a :: l, vs, hl, he, hk => by
    simp only [toAs] at hk
    split at hk
    · rename_i b m h1 h2
      simp only [Option.some.injEq] at hk
      subst hk
      have e1 := toA_ok (he 0 x a rfl rfl) h1
      have e2 := toAs_ok (l := l) (by simpa using hl) (fun i y b h3 h4 => he (i + 1) y b (by simpa using h3) (by simpa using h4)) h2
      rw [e1, e2]
    · cases hk
theorem aggA_ok {x : SV C.T} {a : AVal} {l : List AVal} (h : Er E x a) (hk : aggA x = some l) : a = .agg l := by
  unfold aggA at hk
  split at hk
  · cases h with
    | agg h1 h2 => rw [toAs_ok h1 h2 hk]
  · cases h
    rw [Option.some.inj hk]
  · cases hk
theorem tlNilS_ok {op : BinOp} {t : TypeId} {l : Bool} {x y : SV C.T} {a b : AVal} {K : SV C.T → Tree} (hx : Er E x a) (hy : Er E y b) (h : (tlNilS P op t l x y K).holds) : Ret E (binA P op t l a b) K := by
  unfold tlNilS at h
  split at h
  · rename_i n rows
    cases hy
    have key : ∀ q : Bool, nk a = some (.s, q) → (q = true → rows = []) → Ret E (binA P op t l a .nils) K := by
      intro q hq hl
      obtain ⟨v, sv, h1, h2, h3⟩ := nilBinS_ok (E := E) (y := .nils) hq rfl (h q hl)
      simp only at h3
      split at h3
      · cases h2
        exact ⟨_, _, h1, .b _, h3⟩
      · exact (stuck_no h3).elim
    cases hx with
    | tlN => exact key true rfl fun _ => rfl
    | tlL h1 h2 h3 h4 => exact key false rfl nofun
    | tlS h1 h2 h3 h4 h5 h6 => exact key false rfl nofun
  · exact (stuck_no h).elim
theorem binS_ok {op : BinOp} {t : TypeId} {l : Bool} {x y : SV C.T} {a b : AVal} {K : SV C.T → Tree} (hx : Er E x a) (hy : Er E y b) (h : (binS P op t l x y K).holds) : Ret E (binA P op t l a b) K := by
  unfold binS at h
  cases hl : isLit x && isLit y with
  | true =>
    rw [hl] at h
    simp only [cond_true] at h
    split at h
    · cases hx
      cases hy
      obtain ⟨v, h1, h2⟩ := opt_some h
      exact ⟨v, _, h1, .lift v, h2⟩
    · cases hx
      cases hy
      obtain ⟨v, h1, h2⟩ := opt_some h
      exact ⟨v, _, h1, .a v, h2⟩
    · exact (stuck_no h).elim
  | false =>
    rw [hl] at h
    simp only [cond_false] at h
    split at h
    · rename_i k m k' n h1 h2
      rw [intOf_ok hx h1, intOf_ok hy h2]
      exact intBinS_ok h
    · split at h
      · rename_i s s' h1 h2
        rw [strOf_ok hx h1, strOf_ok hy h2]
        exact strBinS_ok h
      · split at h
        · rename_i s s' h1 h2
          rw [boolOf_ok hx h1, boolOf_ok hy h2]
          exact boolBinS_ok h
        · split at h
          · rename_i p q h1 h2
            exact nilBinS_ok (nkS_ok hx h1) (nkS_ok hy h2) h
          · split at h
            · rename_i l1 l2 h1 h2
              rw [aggA_ok hx h1, aggA_ok hy h2]
              obtain ⟨v, h3, h4⟩ := opt_some h
              exact ⟨v, _, h3, .lift v, h4⟩
            · exact tlNilS_ok hx hy h
theorem unS_ok {op : UnOp} {x : SV C.T} {a : AVal} {K : SV C.T → Tree} (hx : Er E x a) (h : (unS op x K).holds) : Ret E (unA op a) K := by
  unfold unS at h
  split at h
  · cases hx
    obtain ⟨v, h1, h2⟩ := opt_some h
    exact ⟨v, _, h1, .a v, h2⟩
  · cases hx
    obtain ⟨v, h1, h2⟩ := opt_some h
    exact ⟨v, _, h1, .lift v, h2⟩
  · cases hx
    obtain ⟨v, h1, h2⟩ := opt_some h
    exact ⟨v, _, h1, .lift v, h2⟩
  · exact (stuck_no h).elim
theorem fieldAddrS_ok {t : TypeId} {f : Nat} {x : SV C.T} {a : AVal} {K : SV C.T → Tree} (hx : Er E x a) (h : (fieldAddrS P t x f K).holds) : Ret E (fieldAddrA P t a f) K := by
  unfold fieldAddrS at h
  unfold fieldAddrA
  split at h
  · rename_i fs hu
    rw [hu]
    simp only
    split at h
    · rename_i fd hf
      rw [hf]
      simp only
      split at h
      · rename_i hc
        rw [if_pos hc]
        split at h
        · cases hx with
          | ptr hb => exact ⟨_, _, rfl, .ptr hb, h⟩
        · cases hx with
          | ep hb =>
            refine ⟨_, _, rfl, ?_, h⟩
            rw [Nat.add_assoc _ _ fd.offset]
            exact .ep hb
        · split at h
          · rename_i hle
            cases hx with
            | fpI e hl hr =>
              subst e
              have hh : Ers E _ _ := ⟨hl, hr⟩
              have := hh.drop fd.offset
              refine ⟨_, _, rfl, .fpI (List.drop_append_of_le_length (by omega)) this.1 this.2, h⟩
            | fpP hf e hl hr =>
              have hh : Ers E _ _ := ⟨hl, hr⟩
              have := hh.drop fd.offset
              exact ⟨_, _, rfl, .fpP hf (by rw [← List.drop_drop, e, List.drop_append_of_le_length (by omega)]) this.1 this.2, h⟩
          · exact (stuck_no h).elim
        · cases hx
          exact ⟨_, _, rfl, .a _, h⟩
        · cases hx
          exact ⟨_, _, rfl, .a _, h⟩
        · exact (stuck_no h).elim
      · exact (stuck_no h).elim
    · exact (stuck_no h).elim
  · exact (stuck_no h).elim
theorem fieldS_ok {t : TypeId} {f : Nat} {x : SV C.T} {a : AVal} {K : SV C.T → Tree} (hx : Er E x a) (h : (fieldS P t x f K).holds) : Ret E (fieldA P t a f) K := by
  unfold fieldS at h
  unfold fieldA
  split at h
  · rename_i fs hu
    rw [hu]
    split at h
    · rename_i fd hf
      split at h
      · rename_i hc
        split at h
        · cases hx with
          | agg hl hr =>
            obtain ⟨v, h1, h2⟩ := opt_some h
            obtain ⟨w, h3, h4⟩ := partS_ok' (E := E) ⟨hl, hr⟩ h1
            simp only [hf]
            rw [if_pos hc]
            exact ⟨w, v, h3, h4, h2⟩
        · cases hx
          obtain ⟨v, h1, h2⟩ := opt_some h
          simp only [hf]
          rw [if_pos hc]
          exact ⟨v, _, h1, .a v, h2⟩
        · exact (stuck_no h).elim
      · exact (stuck_no h).elim
    · exact (stuck_no h).elim
  · exact (stuck_no h).elim
theorem Codec.at_get {n : Nat} {l : List (C.T n)} {j : Int} (h0 : 0 ≤ j) (h1 : j < (l.length : Int)) : l[j.toNat]? = some (C.at n l j) := by
  have : j.toNat < l.length := by omega
  unfold Codec.at
  rw [List.getD_eq_getElem?_getD, List.getElem?_eq_getElem this]
  rfl
end
end Go.Sy

/- The quiet operations on symbolic values are sound, second half. Generic: over any program. -/
namespace Go.Sy
open Go.Am
set_option linter.unusedVariables false
variable {C : Codec} {E : Env} {P : Program}
theorem hget_some {h : SH C} {id : Nat} {o : Obj C.T} (e : hget h id = some o) : h[id]? = some (some o) := by
  unfold hget at e
  split at e
  · rename_i o' ho
    simp only [Option.some.injEq] at e
    rw [ho, e]
  · cases e
structure CodecOk (C : Codec) : Prop where
  len : ∀ (n : Nat) (x : C.T n), (C.enc n x).length = C.sz n
  one : ∀ (n : Nat) (x : C.T n), (C.enc n x).all oneS = true
  ids : ∀ (n : Nat) (x : C.T n), (C.enc n x).all noId = true
  flat : ∀ (n : Nat) (x : C.T n), C.flat n = true → (C.enc n x).all scal = true
  dec : ∀ (n : Nat) (cs : List (SV C.T)) (x : C.T n), C.dec n cs = some x → ∀ (E : Env) (as : List AVal), Ers E cs as → Ers E (C.enc n x) as
theorem Ers.of_at {n : Nat} {l : List (C.T n)} {as : List AVal} {off i : Nat} {y : C.T n} (hC : CodecOk C) (h : ∀ (i : Nat) (y : C.T n) (j : Nat) (x : SV C.T) (a : AVal), l[i]? = some y → (C.enc n y)[j]? = some x → as[off + i * C.sz n + j]? = some a → Er E x a)
    (hy : l[i]? = some y) (hl : off + i * C.sz n + C.sz n ≤ as.length) : Ers E (C.enc n y) ((as.drop (off + i * C.sz n)).take (C.sz n)) := by
  refine ⟨by rw [hC.len]; simp; omega, fun j x a h1 h2 => ?_⟩
  rw [List.getElem?_take] at h2
  split at h2
  · rw [List.getElem?_drop] at h2
    exact h i y j x a hy h1 h2
  · cases h2
theorem mul_le_of {i n z : Nat} (h : i < n) : i * z + z ≤ n * z := by
  have : (i + 1) * z ≤ n * z := Nat.mul_le_mul_right _ h
  rw [Nat.add_mul, Nat.one_mul] at this
  exact this
theorem drop_take_split {as : List AVal} {o z : Nat} : as.drop o = (as.drop o).take z ++ as.drop (o + z) := by
  rw [← List.drop_drop, List.take_append_drop]
theorem indexAddrS_ok {lo wlo : Nat} (hC : CodecOk C) {t : TypeId} {h : SH C} {H : Heap} (hH : SimH E lo wlo h H) {x i : SV C.T} {a b : AVal} {K : SV C.T → Tree} (hx : Er E x a) (hi : Er E i b)
    (hh : (indexAddrS P t h x i K).holds) : Ret E (indexAddrA P t a b) K := by
  unfold indexAddrS at hh
  split at hh
  · rename_i len e hu
    split at hh
    · rename_i hc
      split at hh
      · cases hx with
        | ptr hb =>
          obtain ⟨j, h1, h2, h3⟩ := idxK_ok hi hh
          refine ⟨_, _, ?_, .ptr hb, h3⟩
          simp only [indexAddrA, h1, hu, h2, hc, and_self, if_true]
      · obtain ⟨j, h1, h2, h3⟩ := idxK_ok hi hh
        split at h3
        · rename_i hle
          cases hx with
          | fpI e1 hl hr =>
            rename_i as all rest
            subst e1
            have hE : Ers E _ _ := ⟨hl, hr⟩
            have := hE.drop (j * szOf P e)
            refine ⟨_, _, ?_, .fpI (rest := rest) (List.drop_append_of_le_length (by omega)) this.1 this.2, h3⟩
            simp only [indexAddrA, h1, hu, h2, hc, and_self, if_true]
          | fpP hf e1 hl hr =>
            rename_i as all rest b off
            have hE : Ers E _ _ := ⟨hl, hr⟩
            have := hE.drop (j * szOf P e)
            have e2 : all.drop (off + j * szOf P e) = as.drop (j * szOf P e) ++ rest := by rw [← List.drop_drop, e1, List.drop_append_of_le_length (by omega)]
            refine ⟨.ptr b (off + j * szOf P e), _, ?_, .fpP (rest := rest) hf e2 this.1 this.2, h3⟩
            simp only [indexAddrA, h1, hu, h2, hc, and_self, if_true]
        · exact (stuck_no h3).elim
      · cases hx
        obtain ⟨j, h1, h2, h3⟩ := idxK_ok hi hh
        refine ⟨_, _, ?_, .a _, h3⟩
        simp only [indexAddrA, h1, hu, h2, hc, and_self, if_true]
      · exact (stuck_no hh).elim
    · exact (stuck_no hh).elim
  · rename_i e hu
    split at hh
    · rename_i hc
      split at hh
      · rename_i n l
        split at hh
        · rename_i hsz
          split at hh
          · rename_i k j hj
            obtain ⟨⟨h0, h1⟩, h2⟩ := hh
            rw [intOf_ok hi hj]
            have hat := Codec.at_get (C := C) h0 h1
            have hidx : idxA (.int k j) = some j.toNat := by simp [idxA, h0]
            cases hx with
            | tlN => simp at h1; omega
            | tlL hz hl hs hr =>
              rename_i z rows ex
              have hlt : j.toNat < rows.length := by omega
              have hrow : rows[j.toNat]? = some rows[j.toNat] := List.getElem?_eq_getElem hlt
              refine ⟨.ipt rows[j.toNat], _, ?_, .fpI (rest := []) (List.append_nil _).symm ?_ (fun p q r g1 g2 => hr j.toNat _ _ p q r hat hrow g1 g2), h2⟩
              · simp only [indexAddrA, hidx, hu, hc, if_true, hz, hsz, hrow, Option.map_some]
              · rw [hC.len, hs _ _ hrow]
            | tlS hz hl hf ho hcap hr =>
              rename_i z b off len cap as ex
              have hm := mul_le_of (z := C.sz n) (show j.toNat < l.length by omega)
              have hE := Ers.of_at hC hr hat (by omega)
              refine ⟨.ptr b (off + j.toNat * C.sz n), _, ?_, .fpP hf drop_take_split hE.1 hE.2, h2⟩
              simp only [indexAddrA, hidx, hu, hc, if_true, hz, hsz]
              rw [if_pos ⟨trivial, by omega⟩]
          · exact (stuck_no hh).elim
        · exact (stuck_no hh).elim
      · rename_i id
        split at hh
        · rename_i n l full root ho
          split at hh
          · rename_i hsz
            split at hh
            · rename_i k j hj
              obtain ⟨⟨h0, h1⟩, h2⟩ := hh
              rw [intOf_ok hi hj]
              have hidx : idxA (.int k j) = some j.toNat := by simp [idxA, h0]
              cases hx with
              | R hg hs =>
                rcases hH.obj id _ (hget_some ho) with ⟨rfl, _⟩ | ⟨b, off, cap, ex, as, g1, g2, _, g3, g4, g5, g6, g7, g8⟩
                · simp at h1; omega
                · rw [hg] at g1
                  simp only [Option.some.injEq] at g1
                  subst g1
                  refine ⟨.ptr b (off + j.toNat * C.sz n), _, ?_, .ep (off := 0) hg, h2⟩
                  simp only [indexAddrA, hidx, hu, hc, if_true, hsz]
                  rw [if_pos ⟨trivial, by omega⟩]
            · exact (stuck_no hh).elim
          · exact (stuck_no hh).elim
        · exact (stuck_no hh).elim
      · split at hh
        · rename_i sz id off len cap ex hsz
          cases hx with
          | sl hb =>
            obtain ⟨j, h1, h2, h3⟩ := idxK_ok hi hh
            refine ⟨_, _, ?_, .ptr hb, h3⟩
            simp only [indexAddrA, h1, hu, hc, if_true, hsz]
            rw [if_pos ⟨trivial, h2⟩]
        · exact (stuck_no hh).elim
      · split at hh
        · rename_i sz rows ex hsz
          cases hx
          obtain ⟨j, h1, h2, h3⟩ := idxK_ok hi hh
          obtain ⟨r, h4, h5⟩ := opt_some h3
          refine ⟨_, _, ?_, .a _, h5⟩
          simp only [indexAddrA, h1, hu, hc, if_true, hsz, h4, Option.map_some]
        · exact (stuck_no hh).elim
      · exact (stuck_no hh).elim
    · exact (stuck_no hh).elim
  · exact (stuck_no hh).elim
theorem indexS_ok {t : TypeId} {x i : SV C.T} {a b : AVal} {K : SV C.T → Tree} (hx : Er E x a) (hi : Er E i b) (hh : (indexS P t x i K).holds) : Ret E (indexA P t a b) K := by
  unfold indexS at hh
  split at hh
  · rename_i len e hu
    split at hh
    · rename_i hc
      split at hh
      · cases hx with
        | agg hl hr =>
          obtain ⟨j, h1, h2, h3⟩ := idxK_ok hi hh
          obtain ⟨v, h4, h5⟩ := opt_some h3
          obtain ⟨w, h6, h7⟩ := partS_ok' (E := E) ⟨hl, hr⟩ h4
          exact ⟨w, v, by simp only [indexA, h1, hu, h2, hc, and_self, if_true, h6], h7, h5⟩
      · cases hx
        obtain ⟨j, h1, h2, h3⟩ := idxK_ok hi hh
        obtain ⟨v, h4, h5⟩ := opt_some h3
        exact ⟨v, _, by simp only [indexA, h1, hu, h2, hc, and_self, if_true, h4], .a v, h5⟩
      · exact (stuck_no hh).elim
    · exact (stuck_no hh).elim
  · rename_i hu
    split at hh
    · cases hx
      cases hi
      split at hh
      · obtain ⟨v, h4, h5⟩ := opt_some hh
        exact ⟨_, _, by simp [indexA, idxA, hu, h4], .a _, h5⟩
      · exact (stuck_no hh).elim
    · split at hh
      · rename_i s k j h1 h2
        rw [strOf_ok hx h1, intOf_ok hi h2]
        obtain ⟨⟨h3, h4⟩, h5⟩ := hh
        have hlt : j.toNat < s.length := by omega
        refine ⟨_, _, ?_, .i _ _, h5⟩
        simp only [indexA, idxA, h3, if_true, hu, List.getElem?_eq_getElem hlt, Option.map_some]
        simp [List.getD_eq_getElem?_getD, hlt]
      · exact (stuck_no hh).elim
  · exact (stuck_no hh).elim
theorem lenS_ok {lo wlo : Nat} {t : TypeId} {h : SH C} {H : Heap} (hH : SimH E lo wlo h H) {x : SV C.T} {a : AVal} {K : SV C.T → Tree} (hx : Er E x a) (hh : (lenS P t h x K).holds) : Ret E (lenA P t H a) K := by
  unfold lenS at hh
  split at hh
  · rename_i hu
    split at hh
    · cases hx
      exact ⟨_, _, by simp [lenA, hu], .a _, hh⟩
    · cases hx
      exact ⟨_, _, by simp [lenA, hu], .i _ _, hh⟩
    · exact (stuck_no hh).elim
  · rename_i n e hu
    split at hh
    · exact (stuck_no hh).elim
    · exact (stuck_no hh).elim
    · exact (stuck_no hh).elim
    · rename_i h1 h2 h3
      refine ⟨.int .i64 n, _, ?_, .a _, hh⟩
      have hm : ∀ b, a ≠ .mapr b := by
        rintro b rfl
        cases hx with
        | a => exact h3 b rfl
        | mapr => exact h1 _ rfl
        | any => exact h2 rfl
        | R _ hs => simp [isSlB] at hs
      unfold lenA
      rw [hu]
      split <;> simp_all
  · rename_i e hu
    split at hh
    · cases hx
      exact ⟨_, _, by simp [lenA, hu], .a _, hh⟩
    · cases hx
      exact ⟨_, _, by simp [lenA, hu], .a _, hh⟩
    · cases hx with
      | sl hb => exact ⟨_, _, by simp [lenA, hu], .a _, hh⟩
    · cases hx with
      | tlN => exact ⟨_, _, by simp [lenA, hu], .i _ _, hh⟩
      | tlL h1 h2 => exact ⟨_, _, by simp [lenA, hu, h2], .i _ _, hh⟩
      | tlS h1 h2 => exact ⟨_, _, by simp [lenA, hu, h2], .i _ _, hh⟩
    · rename_i id
      split at hh
      · rename_i n l full root ho
        cases hx with
        | R hg hs =>
          rcases hH.obj id _ (hget_some ho) with ⟨rfl, _, a', g1, g2⟩ | ⟨b, off, cap, ex, as, g1, _⟩
          · rw [hg] at g1
            simp only [Option.some.injEq] at g1
            subst g1
            rcases g2 with rfl | rfl
            · exact ⟨_, _, by simp [lenA, hu], .i _ _, hh⟩
            · exact ⟨_, _, by simp [lenA, hu], .i _ _, hh⟩
          · rw [hg] at g1
            simp only [Option.some.injEq] at g1
            subst g1
            exact ⟨_, _, by simp [lenA, hu], .i _ _, hh⟩
      · exact (stuck_no hh).elim
    · exact (stuck_no hh).elim
  · exact (stuck_no hh).elim
theorem loadS_ok {lo wlo : Nat} (hC : CodecOk C) {t : TypeId} {h : SH C} {H : Heap} (hH : SimH E lo wlo h H) {x : SV C.T} {a : AVal} {K : SV C.T → Tree} (hx : Er E x a) (hh : (loadS P t h x K).holds) : Ret E (loadA P t H a) K := by
  unfold loadS at hh
  split at hh
  · rename_i id off
    split at hh
    · rename_i cs ho
      split at hh
      · rename_i hle
        obtain ⟨v, h1, h2⟩ := opt_some hh
        cases hx with
        | ptr hb =>
          rename_i b
          obtain ⟨b', as, g1, _, g2, g3⟩ := hH.obj id _ (hget_some ho)
          rw [hb] at g1
          simp only [Option.some.injEq] at g1
          subst g1
          obtain ⟨w, h3, h4⟩ := partS_ok' (g3.drop off) h1
          exact ⟨w, v, by simp only [loadA, atA, g2, Option.bind_some, h3], h4, h2⟩
      · exact (stuck_no hh).elim
    · exact (stuck_no hh).elim
  · rename_i id i off
    split at hh
    · rename_i n l full root ho
      obtain ⟨⟨h0, h1⟩, hh⟩ := hh
      split at hh
      · rename_i hle
        obtain ⟨v, h2, h3⟩ := opt_some hh
        have hat := Codec.at_get (C := C) h0 h1
        cases hx with
        | ep hg =>
          rename_i z b o len cap ex
          rcases hH.obj id _ (hget_some ho) with ⟨rfl, _⟩ | ⟨b', off', cap', ex', as, g1, g2, _, g3, g4, g5, g6, g7, g8⟩
          · simp at h1; omega
          · rw [hg] at g1
            simp only [Option.some.injEq, AVal.sl.injEq] at g1
            obtain ⟨rfl, rfl, rfl, rfl, rfl, rfl⟩ := g1
            have hm := mul_le_of (z := C.sz n) (show i.toNat < l.length by omega)
            have hc := Nat.mul_le_mul_right (C.sz n) g4
            have hE := (Ers.of_at hC g8 hat (by omega)).drop off
            rw [List.drop_take] at hE
            obtain ⟨w, h4, h5⟩ := partS_ok (rest := as.drop (o + i.toNat * C.sz n + C.sz n)) hE h2
            have e : as.drop (o + i.toNat * C.sz n + off) = ((as.drop (o + i.toNat * C.sz n)).drop off).take (C.sz n - off) ++ as.drop (o + i.toNat * C.sz n + C.sz n) := by
              rw [List.drop_drop, show o + i.toNat * C.sz n + C.sz n = (o + i.toNat * C.sz n + off) + (C.sz n - off) by omega, ← List.drop_drop (l := as) (i := C.sz n - off), List.take_append_drop]
            exact ⟨w, v, by simp only [loadA, atA, g3, Option.bind_some]; rw [e]; exact h4, h5, h3⟩
      · exact (stuck_no hh).elim
    · exact (stuck_no hh).elim
  · obtain ⟨v, h1, h2⟩ := opt_some hh
    cases hx with
    | fpI e hl hr =>
      subst e
      obtain ⟨w, h3, h4⟩ := partS_ok (E := E) ⟨hl, hr⟩ h1
      exact ⟨w, v, by simp only [loadA, atA, Option.bind_some]; exact h3, h4, h2⟩
    | fpP hf e hl hr =>
      obtain ⟨w, h3, h4⟩ := partS_ok (E := E) ⟨hl, hr⟩ h1
      have := (hH.fr _ _ hf).1
      exact ⟨w, v, by simp only [loadA, atA, this, Option.bind_some, e]; exact h3, h4, h2⟩
  · cases hx
    obtain ⟨v, h1, h2⟩ := opt_some hh
    exact ⟨v, _, by simp only [loadA, atA, Option.bind_some, h1], .a v, h2⟩
  · cases hx
    obtain ⟨v, h1, h2⟩ := opt_some hh
    exact ⟨v, _, by simp only [loadA, atA, Option.bind_some, h1], .a v, h2⟩
  · exact (stuck_no hh).elim
theorem strOfA_nil {s d : TypeId} {v r : AVal} (h : strOfA P s d [] v = some r) (H : Heap) : strOfA P s d H v = some r := by
  unfold strOfA at h ⊢
  split at h
  · rename_i hs hd
    split at h
    · exact h
    · exact h
    · simp at h
    · cases h
  · cases h
theorem convHA_nil {s d : TypeId} {v r : AVal} (h : convHA P s d [] v = some r) (H : Heap) : convHA P s d H v = some r := by
  unfold convHA at h ⊢
  cases e : convA P s d v with
  | some x => rw [e] at h; exact h
  | none => rw [e] at h; exact strOfA_nil h H
theorem bytes_ok : ∀ (n : Nat) {xs : List (SV C.T)} {ys : List AVal} {bs : List UInt8}, Ers E xs ys → n ≤ xs.length → bytesS (xs.take n) = some bs → bytesOf? (chunk 1 n ys) = some bs
  | 0, xs, ys, bs, hE, hn, h => by
    simp only [List.take_zero, bytesS, Option.some.injEq] at h
    subst h
    rfl
  | n + 1, [], ys, bs, hE, hn, h => by simp at hn
  | n + 1, x :: xs, ys, bs, hE, hn, h => by
    obtain ⟨a, ys, rfl, h1, hE⟩ := hE.inv_cons
    simp only [List.take_succ_cons, bytesS] at h
    split at h
    · rename_i m hi
      rw [Option.map_eq_some_iff] at h
      obtain ⟨cs, h2, rfl⟩ := h
      have := bytes_ok n hE (by simpa using hn) h2
      rw [intOf_ok h1 hi]
      show (bytesOf? (chunk 1 n ys)).map _ = _
      rw [this]
      rfl
    · cases h
theorem bytes_rows {n : Nat} : ∀ {l : List (C.T n)} {as : List AVal}, (∀ y, y ∈ l → ∃ x m, C.enc n y = [x] ∧ intOf x = some (.u8, m)) → l.length ≤ as.length → (∀ (i : Nat) (y : C.T n) (x : SV C.T) (a : AVal), l[i]? = some y → (C.enc n y)[0]? = some x → as[i]? = some a → Er E x a) → bytesOf? (chunk 1 l.length as) = some (l.map (byteR C n))
  | [], as, _, _, _ => rfl
  | y :: l, [], _, hl, _ => by simp at hl
  | y :: l, a :: as, h, hl, hE => by
    obtain ⟨x, m, h1, h2⟩ := h y (by simp)
    have h3 := hE 0 y x a rfl (by rw [h1]; rfl) rfl
    have ih := bytes_rows (l := l) (as := as) (fun z hz => h z (List.mem_cons_of_mem _ hz)) (by simpa using hl) (fun i z x a q1 q2 q3 => hE (i + 1) z x a q1 q2 q3)
    rw [intOf_ok h3 h2]
    show (bytesOf? (chunk 1 l.length as)).map _ = _
    rw [ih]
    simp only [Option.map_some, List.map_cons, byteR, h1, h2]
theorem convS_ok {s d : TypeId} {h : SH C} {lo wlo : Nat} {H : Heap} (hS : SimH E lo wlo h H) {x : SV C.T} {a : AVal} {K : SV C.T → Tree} (hx : Er E x a) (hh : (convS P s d h x K).holds) : Ret E (convHA P s d H a) K := by
  unfold convS at hh
  split at hh
  · cases hx
    obtain ⟨v, h1, h2⟩ := opt_some hh
    exact ⟨v, _, convHA_nil h1 H, .a v, h2⟩
  · cases hx
    split at hh
    · rename_i hs hd
      exact ⟨_, _, by simp [convHA, convA, hs, hd], .i _ _, hh⟩
    · exact (stuck_no hh).elim
  · cases hx
    split at hh
    · rename_i hs hd
      exact ⟨_, _, by simp [convHA, convA, hs, hd], .s _, hh⟩
    · exact (stuck_no hh).elim
  · rename_i sz id off len cap ex
    cases hx with
    | sl hβ =>
    rename_i b
    split at hh
    · rename_i e cs hs hd ho
      split at hh
      · rename_i he
        split at hh
        · rename_i hc
          split at hh
          · rename_i bs hbs
            obtain ⟨rfl, hl⟩ := hc
            obtain ⟨b', ys, g1, gw, g2, g3⟩ := hS.obj id _ (hget_some ho)
            rw [hβ] at g1
            simp only [Option.some.injEq] at g1
            subst g1
            have hlen := g3.1
            have := bytes_ok len (g3.drop off) (by rw [List.length_drop]; omega) hbs
            refine ⟨.str bs, _, ?_, .s _, hh⟩
            simp only [convHA, convA, hs, hd, strOfA, he, g2]
            rw [if_pos (show off + len ≤ ys.length by omega), this]
            rfl
          · exact (stuck_no hh).elim
        · exact (stuck_no hh).elim
      · exact (stuck_no hh).elim
    · exact (stuck_no hh).elim
  · rename_i id
    cases hx with
    | R hγ _ =>
    split at hh
    · rename_i e n l full root hs hd ho
      split at hh
      · rename_i he
        split at hh
        · rename_i hz
          obtain ⟨hb, hh⟩ := hh
          refine ⟨.str (l.map (byteR C n)), _, ?_, .s _, hh⟩
          rcases hS.obj id _ (hget_some ho) with ⟨rfl, _, a', g1, g2⟩ | ⟨b, off, cap, ex, as, g1, g2, gw, g3, g4, g5, g6, g7, g8⟩
          · rw [hγ] at g1
            simp only [Option.some.injEq] at g1
            subst g1
            rcases g2 with rfl | rfl
            · simp only [convHA, convA, hs, hd, strOfA, he]
              rfl
            · simp only [convHA, convA, hs, hd, strOfA, he, hz, if_true]
              rfl
          · rw [hγ] at g1
            simp only [Option.some.injEq] at g1
            subst g1
            rw [hz, Nat.mul_one] at g5
            have := bytes_rows (E := E) (l := l) (as := as.drop off) hb (by rw [List.length_drop]; omega) (fun i y x a q1 q2 q3 => g8 i y 0 x a q1 q2 (by rw [hz, Nat.mul_one, Nat.add_zero, ← List.getElem?_drop]; exact q3))
            simp only [convHA, convA, hs, hd, strOfA, he, g3, hz]
            rw [if_pos trivial, if_pos (show off + l.length ≤ as.length by omega), this]
            rfl
        · exact (stuck_no hh).elim
      · exact (stuck_no hh).elim
    · exact (stuck_no hh).elim
  · exact (stuck_no hh).elim
theorem typeAssertS_ok {x : SV C.T} {a : AVal} {t : TypeId} {ok : Bool} {K : SV C.T → Tree} (hx : Er E x a) (hh : (typeAssertS P x t ok K).holds) : Ret E (typeAssertA P a t ok) K := by
  unfold typeAssertS at hh
  have two : ∀ {x y : SV C.T} {a b : AVal}, Er E x a → Er E y b → Er E (.tup [x, y]) (.tup [a, b]) := fun h k => .tup rfl (Ers.nil.cons k |>.cons h).2
  split at hh
  · cases hx
    obtain ⟨v, h1, h2⟩ := opt_some hh
    exact ⟨v, _, h1, .a v, h2⟩
  · cases hx with
    | iface hv =>
      rename_i u x a
      simp only [typeAssertA]
      split at hh
      · rename_i want hu
        simp only [hu]
        split at hh
        · rename_i i hi
          simp only [hi]
          split at hh
          · rename_i hl
            rw [if_pos hl]
            split at hh
            · rename_i hok
              obtain ⟨z, h1, h2⟩ := opt_some hh
              exact ⟨_, _, by rw [if_pos hok, h1]; rfl, two (.a z) (.a _), h2⟩
            · exact (stuck_no hh).elim
          · rename_i hl
            rw [if_neg hl]
            refine ⟨_, _, rfl, ?_, hh⟩
            split
            · exact two (.iface hv) (.a _)
            · exact .iface hv
        · exact (stuck_no hh).elim
      · rename_i hne hu
        have e : ∀ (z : Option AVal), (match P.underlying t with
          | some (.interface want) => z
          | some _ => if u = t then some (if ok = true then .tup [a, .bool true] else a) else if ok = true then (zeroA P t).map fun z => .tup [z, .bool false] else none
          | none => none) = if u = t then some (if ok = true then AVal.tup [a, .bool true] else a) else if ok = true then (zeroA P t).map fun z => .tup [z, .bool false] else none := by
          intro z
          split
          · rename_i w e; rw [e] at hu; exact (hne _ (Option.some.inj hu).symm).elim
          · rfl
          · rename_i e; rw [e] at hu; cases hu
        split
        · rename_i w e; rw [e] at hu; exact (hne _ (Option.some.inj hu).symm).elim
        · split at hh
          · rename_i hut
            rw [if_pos hut]
            refine ⟨_, _, rfl, ?_, hh⟩
            split
            · exact two hv (.a _)
            · exact hv
          · rename_i hut
            rw [if_neg hut]
            split at hh
            · rename_i hok
              obtain ⟨z, h1, h2⟩ := opt_some hh
              exact ⟨_, _, by rw [if_pos hok, h1]; rfl, two (.a z) (.a _), h2⟩
            · exact (stuck_no hh).elim
        · rename_i e; rw [e] at hu; cases hu
      · exact (stuck_no hh).elim
  · exact (stuck_no hh).elim
inductive PartsOk (E : Env) : List (Nat × SV C.T) → List (Nat × AVal) → Prop
  | nil : PartsOk E [] []
  | cons {i : Nat} {x : SV C.T} {a : AVal} {xs : List (Nat × SV C.T)} {as : List (Nat × AVal)} : Er E x a → PartsOk E xs as → PartsOk E ((i, x) :: xs) ((i, a) :: as)
theorem fillS_ok {place : Nat → Option (Nat × Nat)} : ∀ {parts : List (Nat × SV C.T)} {as : List (Nat × AVal)} {cells : List (SV C.T)} {ca : List AVal} {r : List (SV C.T)}, PartsOk E parts as → Ers E cells ca → fillS place cells parts = some r → ∃ ra, fillA place ca as = some ra ∧ Ers E r ra
  | [], _, cells, ca, r, hp, hc, h => by
    cases hp
    simp only [fillS, Option.some.injEq] at h
    subst h
    exact ⟨ca, rfl, hc⟩
  | (i, v) :: rest, _, cells, ca, r, hp, hc, h => by
    cases hp with
    | cons hv hp =>
      rename_i a as
      simp only [fillS] at h
      split at h
      · cases h
      · rename_i off size hpl
        split at h
        · cases h
        · rename_i vs hvs
          have hE := cellsS_ok hv hvs
          split at h
          · cases h
          · rename_i hne
            simp only [not_or, Decidable.not_not, Bool.not_eq_true, Bool.not_eq_false'] at hne
            obtain ⟨h1, h2, h3⟩ := hne
            have ho := oneS_all hE h3
            obtain ⟨ra, h4, h5⟩ := fillS_ok hp (((hc.take off).append hE).append (hc.drop (off + vs.length))) h
            refine ⟨ra, ?_, h5⟩
            have hl1 := hE.1
            have hl2 := hc.1
            simp only [fillA, hpl]
            rw [if_neg (by simp only [not_or, Decidable.not_not, Bool.not_eq_true, Bool.not_eq_false']; exact ⟨by omega, by omega, ho⟩)]
            rw [← hl1]
            exact h4
theorem buildS_ok {t : TypeId} {parts : List (Nat × SV C.T)} {as : List (Nat × AVal)} {K : SV C.T → Tree} (hp : PartsOk E parts as) (hh : (buildS P t parts K).holds) : Ret E (buildA P t as) K := by
  unfold buildS at hh
  unfold buildA
  split at hh
  · exact (stuck_no hh).elim
  · rename_i z hz
    simp only [hz]
    split at hh
    · exact (stuck_no hh).elim
    · rename_i hall
      rw [if_neg hall]
      split at hh
      · rename_i fs hu
        simp only [hu]
        split at hh
        · rename_i hc
          rw [if_pos hc]
          obtain ⟨cs, h1, h2⟩ := opt_some hh
          obtain ⟨ra, h3, h4⟩ := fillS_ok hp (Ers.mapA z.cells) h1
          exact ⟨_, _, by rw [h3]; rfl, .agg h4.1 h4.2, h2⟩
        · exact (stuck_no hh).elim
      · rename_i n e hu
        simp only [hu]
        split at hh
        · rename_i hc
          rw [if_pos hc]
          obtain ⟨cs, h1, h2⟩ := opt_some hh
          obtain ⟨ra, h3, h4⟩ := fillS_ok hp (Ers.mapA z.cells) h1
          exact ⟨_, _, by rw [h3]; rfl, .agg h4.1 h4.2, h2⟩
        · exact (stuck_no hh).elim
      · exact (stuck_no hh).elim
end Go.Sy

/- A run over symbolic values: what is owed comes out as a tree. Generic: over any program. -/
namespace Go.Sy
open Go.Am
set_option linter.unusedVariables false
variable {C : Codec}
def bndN {T : Nat → Type} (d : Nat) : Option (SV T) → Option Nat
  | none => some d
  | some (.a (.int _ (.ofNat m))) => some m
  | _ => none
def bndI {T : Nat → Type} (d : Int) : Option (SV T) → Option Int
  | none => some d
  | some v => (intOf v).map (·.2)
def litO {T : Nat → Type} : Option (SV T) → Option (Option AVal)
  | none => some none
  | some (.a v) => some (some v)
  | _ => none
def sliceS (P : Program) (wlo : Nat) (t : TypeId) (h : SH C) (x : SV C.T) (lo hi mx : Option (SV C.T)) (K : SV C.T → SH C → Tree) : Tree :=
  match x with
  | .a v => match litO lo, litO hi, litO mx with
    | some lo, some hi, some mx => opt (sliceA P t [] v lo hi mx) "slice" fun r => K (.a r) h
    | _, _, _ => match strOf x, mx, P.underlying t with
      | some s, none, some .string => match bndI 0 lo, bndI s.length hi with
        | some l, some u => .need (0 ≤ l ∧ l ≤ u ∧ u ≤ (s.length : Int)) (K (.s ((s.drop l.toNat).take (u.toNat - l.toNat))) h)
        | _, _ => .stuck "slice"
      | _, _, _ => .stuck "slice"
  | .s s => match mx, P.underlying t with
    | none, some .string => match bndI 0 lo, bndI s.length hi with
      | some l, some u => .need (0 ≤ l ∧ l ≤ u ∧ u ≤ (s.length : Int)) (K (.s ((s.drop l.toNat).take (u.toNat - l.toNat))) h)
      | _, _ => .stuck "slice"
    | _, _ => .stuck "slice"
  | .tl n l => match P.underlying t with
    | some (.slice e) => if (P.info? e).isSome ∧ C.sz n = szOf P e then
        match mx with
        | none => match bndI 0 lo, bndI l.length hi with
          | some p, some u => .need (0 ≤ p ∧ p ≤ u ∧ u ≤ (l.length : Int)) (K (.tl n ((l.drop p.toNat).take (u.toNat - p.toNat))) h)
          | _, _ => .stuck "slice"
        | some m => match bndN 0 lo, hi, bndN 0 (some m) with
          | some 0, some u, some 0 => match bndN 0 (some u) with
            | some 0 => K (.R h.length) (h ++ [some (.rows n [] true h.length)])
            | _ => .stuck "slice"
          | _, _, _ => .stuck "slice"
      else .stuck "slice"
    | _ => .stuck "slice"
  | .R id => match P.underlying t, mx, hget h id with
    | some (.slice e), none, some (.rows n l full root) => if (P.info? e).isSome ∧ C.sz n = szOf P e ∧ wlo ≤ id then
        match bndI 0 lo, bndI l.length hi with
        | some p, some u => .need (0 ≤ p ∧ p ≤ u ∧ u ≤ (l.length : Int)) (K (.R h.length) (h.set id none ++ [some (.rows n ((l.drop p.toNat).take (u.toNat - p.toNat)) (full && hi.isNone) root)]))
        | _, _ => .stuck "slice"
      else .stuck "slice"
    | _, _, _ => .stuck "slice"
  | .sl sz id off len cap ex => match P.underlying t with
    | some (.slice e) => if (P.info? e).isSome ∧ sz = szOf P e then
        match mx with
        | none => match bndN 0 lo, bndN len hi with
          | some p, some u => if p ≤ u ∧ u ≤ cap then K (.sl sz id (off + p * sz) (u - p) (cap - p) ex) h else .stuck "slice"
          | _, _ => .stuck "slice"
        | some m => match bndN 0 lo, hi, bndN 0 (some m) with
          | some p, some u, some m => match bndN 0 (some u) with
            | some u => if p ≤ u ∧ u ≤ m ∧ m ≤ cap then (bif Nat.ble m p then K (.a (.list sz [] true)) h else K (.sl sz id (off + p * sz) (u - p) (m - p) true) h) else .stuck "slice"
            | none => .stuck "slice"
          | _, _, _ => .stuck "slice"
      else .stuck "slice"
    | _ => .stuck "slice"
  | .ptr id off => match P.underlying t, mx, hget h id with
    | some (.array n e), none, some (.cells cs) => if (P.info? e).isSome ∧ off + n * szOf P e ≤ cs.length then
        match bndN 0 lo, bndN n hi with
        | some p, some u => if p ≤ u ∧ u ≤ n then K (.sl (szOf P e) id (off + p * szOf P e) (u - p) (n - p) true) h else .stuck "slice"
        | _, _ => .stuck "slice"
      else .stuck "slice"
    | _, _, _ => .stuck "slice"
  | _ => .stuck "slice"
def pickS {T : Nat → Type} (c a b : SV T) (K : SV T → Tree) : Tree :=
  match c with
  | .a (.bool true) => K a
  | .a (.bool false) => K b
  | .b t => .fork t (K a) (K b)
  | _ => .stuck "pick"
def nilCheckS {T : Nat → Type} (x : SV T) (K : SV T → Tree) : Tree :=
  match x with
  | .ptr id off => K (.ptr id off)
  | .ep id i off => K (.ep id i off)
  | .fp cs => K (.fp cs)
  | .fn (.func f) a b => K (.fn (.func f) a b)
  | .a v => opt (nilCheckA v) "nilCheck" fun r => K (.a r)
  | _ => .stuck "nilCheck"
def extractS {T : Nat → Type} (x : SV T) (i : Nat) (K : SV T → Tree) : Tree :=
  match x with
  | .tup vs => opt (vs[i]?) "extract" K
  | .a (.tup vs) => opt (vs[i]?) "extract" fun v => K (.a v)
  | _ => .stuck "extract"
def minS {T : Nat → Type} (mx : Bool) (args : List (SV T)) (K : SV T → Tree) : Tree :=
  match args with
  | [x, y] => match intOf x, intOf y with
    | some (k, m), some (_, n) => bif isLit x && isLit y then K (.a (.int k (bif mx then (if m < n then n else m) else (if n < m then n else m))))
        else K (.i k (bif mx then (if m < n then n else m) else (if n < m then n else m)))
    | _, _ => .stuck "min"
  | _ => .stuck "min"
def mpFork {T : Nat → Type} (n : Int) : List (Int × SV T) → Nat → (Option (Nat × Int × SV T) → Tree) → Tree
  | [], _, K => K none
  | (m, x) :: es, i, K => .fork (n == m) (K (some (i, m, x))) (mpFork n es (i + 1) K)
def lookupS (P : Program) (t : TypeId) (h : SH C) (m x : SV C.T) (ok : Bool) (K : SV C.T → Tree) : Tree :=
  match P.underlying t, m, intOf x with
  | some (.map kt et), .mapr id, some (.i64, n) => match keyKind P kt, zeroA P et, hget h id with
    | some .int, some .nils, some (.mp es) => bif ok then .stuck "lookup: ok" else mpFork n es 0 fun r => match r with
      | some (_, _, v) => K v
      | none => K (.a .nils)
    | some .int, some (.int k z), some (.mp es) => mpFork n es 0 fun r => match r with
      | some (_, _, v) => bif (intOf v).isSome then K (bif ok then .tup [v, .a (.bool true)] else v) else .stuck "lookup: no number"
      | none => K (bif ok then .tup [.a (.int k z), .a (.bool false)] else .a (.int k z))
    | _, _, _ => .stuck "lookup"
  | _, _, _ => .stuck "lookup: of what"
def quietX (S : AStat) (wlo : Nat) (ev : Operand → SV C.T) (h : SH C) (op : Op) (K : SV C.T → SH C → Tree) : Tree :=
  match op with
  | .move x => K (ev x) h
  | .assign x => K (ev x) h
  | .pick c a b => pickS (ev c) (ev a) (ev b) fun v => K v h
  | .build t parts => buildS S.P t (parts.toList.map fun p => (p.1, ev p.2)) fun v => K v h
  | .load t x => loadS S.P t h (ev x) fun v => K v h
  | .nilCheck x => nilCheckS (ev x) fun v => K v h
  | .binOp op t x y _ => binS S.P op t (litB x || litB y) (ev x) (ev y) fun v => K v h
  | .unOp op _ x => unS op (ev x) fun v => K v h
  | .convert s d x => convS S.P s d h (ev x) fun v => K v h
  | .makeInterface t x => if ifaceB S.P t then .stuck "makeInterface" else K (.iface t (ev x)) h
  | .makeFunc f first captured => K (.fn f (first.toList.map ev) (captured.toList.map ev)) h
  | .slice t x lo hi mx => sliceS S.P wlo t h (ev x) (lo.map ev) (hi.map ev) (mx.map ev) K
  | .fieldAddr t x f => fieldAddrS S.P t (ev x) f fun v => K v h
  | .field t x f => fieldS S.P t (ev x) f fun v => K v h
  | .indexAddr t x i => indexAddrS S.P t h (ev x) (ev i) fun v => K v h
  | .index t x i => indexS S.P t (ev x) (ev i) fun v => K v h
  | .extract x i => extractS (ev x) i fun v => K v h
  | .lookup t m x ok => lookupS S.P t h (ev m) (ev x) ok fun v => K v h
  | .typeAssert x _ t ok => typeAssertS S.P (ev x) t ok fun v => K v h
  | .call c => match c.callee with
    | .builtin .len => match c.argTypes[0]?, c.args[0]? with
      | some t, some x => lenS S.P t h (ev x) fun v => K v h
      | _, _ => .stuck "len"
    | .builtin .min => minS false (c.args.toList.map ev) fun v => K v h
    | .builtin .max => minS true (c.args.toList.map ev) fun v => K v h
    | _ => .stuck "quiet call"
  | _ => .stuck "quiet"
def newX (S : AStat) (ev : Operand → SV C.T) (op : Op) (K : (Nat → Obj C.T) → (Nat → SV C.T) → Tree) : Tree :=
  match op with
  | .alloc t => match zeroA S.P t with
    | some z => if z.cells.all AVal.one then K (fun _ => .cells (z.cells.map .a)) (fun id => .ptr id 0) else .stuck "alloc"
    | none => .stuck "alloc"
  | .box _ x => match cellsS (ev x) with
    | some cs => if cs.all oneS then K (fun _ => .cells cs) (fun id => .ptr id 0) else .stuck "box"
    | none => .stuck "box"
  | .buildSlice t len parts => match S.P.underlying t with
    | some (.slice e) => match zeroA S.P e with
      | none => .stuck "buildSlice"
      | some z => if z.cells.length = szOf S.P e ∧ szOf S.P e ≠ 0 ∧ z.cells.all AVal.one ∧ len * szOf S.P e ≤ 16777216 then
          match fillS (fun i => some (i * szOf S.P e, szOf S.P e)) (((List.replicate len z.cells).flatten).map .a) (parts.toList.map fun p => (p.1, ev p.2)) with
          | some cs => K (fun _ => .cells cs) (fun id => .sl (szOf S.P e) id 0 len len false)
          | none => .stuck "buildSlice: parts"
        else .stuck "buildSlice"
    | _ => .stuck "buildSlice"
  | .makeSlice t l c => match S.P.underlying t with
    | some (.slice e) => match zeroA S.P e with
      | none => .stuck "makeSlice"
      | some z => if z.cells.length = szOf S.P e ∧ szOf S.P e ≠ 0 ∧ z.cells.all AVal.one then
          match bndN 0 (some (ev l)), bndN 0 (some (ev c)) with
          | some l, some c => if l ≤ c ∧ c * S.P.bytesOf e ≤ 281474976710656 ∧ c ≤ 9223372036854775807 then
              K (fun _ => .cells (((List.replicate c z.cells).flatten).map .a)) (fun id => .sl (szOf S.P e) id 0 l c true) else .stuck "makeSlice"
          | _, _ => match intOf (ev l), intOf (ev c), C.ofTy e with
            | some (_, l), some (_, c), some n => match C.dec n (z.cells.map .a) with
              | some x => if C.sz n = szOf S.P e then .need (0 ≤ l ∧ l = c ∧ c * S.P.bytesOf e ≤ 281474976710656 ∧ c ≤ 9223372036854775807) (K (fun id => .rows n (List.replicate l.toNat x) true id) (fun id => .R id)) else .stuck "makeSlice"
              | none => .stuck "makeSlice"
            | _, _, _ => .stuck "makeSlice"
        else .stuck "makeSlice"
    | _ => .stuck "makeSlice"
  | .makeMap _ none => K (fun _ => .mp []) (fun id => .mapr id)
  | .range t x => match S.P.underlying t, strOf (ev x) with
    | some .string, some s => K (fun _ => .it s 0) (fun id => .ptr id 0)
    | _, _ => .stuck "range"
  | _ => .stuck "new"
def byteOf (C : Codec) (n : Nat) (b : UInt8) : C.T n := (C.dec n [.i .u8 b.toNat]).getD (C.dflt n)
def isBytesB (P : Program) (op : Op) : Bool :=
  match op with
  | .convert s d _ => match P.underlying s, P.underlying d with
    | some .string, some (.slice _) => true
    | _, _ => false
  | _ => false
def bytesX (P : Program) (ev : Operand → SV C.T) (op : Op) (K : (Nat → Obj C.T) → (Nat → SV C.T) → Tree) : Tree :=
  match op with
  | .convert s d x => match P.underlying s, P.underlying d, strOf (ev x) with
    | some .string, some (.slice e), some t => match P.underlying e, C.ofTy e with
      | some (.int .u8), some n => if C.sz n = 1 then .need (∀ b : UInt8, (C.dec n [.i .u8 b.toNat]).isSome = true) (K (fun id => .rows n (t.map (byteOf C n)) true id) (fun id => .R id)) else .stuck "bytes"
      | _, _ => .stuck "bytes"
    | _, _, _ => .stuck "bytes"
  | _ => .stuck "bytes"
def storeX (P : Program) (wlo : Nat) (t : TypeId) (h : SH C) (x v : SV C.T) (K : SV C.T → SH C → Tree) : Tree :=
  match cellsS v with
  | none => .stuck "store"
  | some vs =>
    if vs.length = szOf P t ∧ (P.info? t).isSome ∧ vs.all oneS then
      match x with
      | .ptr id off => match hget h id with
        | some (.cells cs) => if wlo ≤ id ∧ off + vs.length ≤ cs.length then K (.a undefA) (h.set id (some (.cells (cs.take off ++ vs ++ cs.drop (off + vs.length))))) else .stuck "store: not one's own"
        | _ => .stuck "store: gone"
      | .ep id i off => match hget h id with
        | some (.rows n l full root) => if wlo ≤ id ∧ off + vs.length ≤ C.sz n then
            match C.dec n ((C.enc n (C.at n l i)).take off ++ vs ++ (C.enc n (C.at n l i)).drop (off + vs.length)) with
            | some y => .need (0 ≤ i ∧ i < (l.length : Int)) (K (.a undefA) (h.set id (some (.rows n (l.set i.toNat y) full root))))
            | none => .stuck "store: a row"
          else .stuck "store: not one's own"
        | _ => .stuck "store: gone"
      | _ => .stuck "store"
    else .stuck "store: cells"
def chunkS {T : Nat → Type} (sz : Nat) : Nat → List (SV T) → List (List (SV T))
  | 0, _ => []
  | n + 1, cs => cs.take sz :: chunkS sz n (cs.drop sz)
def decAll (n : Nat) : List (List (SV C.T)) → Option (List (C.T n))
  | [] => some []
  | r :: rs => match C.dec n r with
    | none => none
    | some x => match decAll n rs with
      | none => none
      | some xs => some (x :: xs)
inductive Src (C : Codec) where
  | lit (rows : List (List (SV C.T)))
  | typ (n : Nat) (l : List (C.T n))
  | no
def srcS (h : SH C) (sz : Nat) (x : SV C.T) : Src C :=
  match x with
  | .a .nils => .lit []
  | .a (.list s rows _) => if s = sz ∧ (rows.all fun r => r.length == sz) then .lit (rows.map (List.map .a)) else .no
  | .a (.str s) => if sz = 1 then .lit (s.map fun b => [.a (.int .u8 b.toNat)]) else .no
  | .sl s id off len _ _ => if s = sz then
      match hget h id with
      | some (.cells cs) => if off + len * sz ≤ cs.length then .lit (chunkS sz len (cs.drop off)) else .no
      | _ => .no
    else .no
  | .tl n l => if C.sz n = sz then .typ n l else .no
  | .R id => match hget h id with
    | some (.rows n l _ _) => if C.sz n = sz then .typ n l else .no
    | _ => .no
  | _ => .no
def castL {C : Codec} {n m : Nat} (e : n = m) (l : List (C.T n)) : List (C.T m) := e ▸ l
def appendX (P : Program) (wlo : Nat) (t u : TypeId) (h : SH C) (s x : SV C.T) (K : SV C.T → SH C → Tree) : Tree :=
  match P.underlying t with
  | some (.slice e) =>
    if (P.info? e).isSome ∧ szOf P e ≠ 0 ∧ notIntB P u = true ∧ zeroFits P e = true ∧ P.bytesOf e ≠ 0 then
      match srcS h (szOf P e) x with
      | .no => .stuck "append: what"
      | .lit rows =>
        if !(rows.flatten.all oneS) then .stuck "append: cells" else
        match s with
        | .a .nils =>
          if rows.length = 0 then K (.a .nils) h
          else if rows.length * P.bytesOf e ≤ 140737488355328 then K (.sl (szOf P e) h.length 0 rows.length rows.length false) (h ++ [some (.cells rows.flatten)])
          else .stuck "append: size"
        | .sl s0 id off len cap ex =>
          if s0 ≠ szOf P e then .stuck "append: size" else
          match hget h id with
          | some (.cells cs) =>
            if off + len * szOf P e ≤ cs.length then
              if rows.length = 0 then K (.sl s0 id off len cap ex) h
              else if len + rows.length ≤ cap then
                if wlo ≤ id ∧ off + (len + rows.length) * szOf P e ≤ cs.length then
                  K (.sl (szOf P e) id off (len + rows.length) cap ex) (h.set id (some (.cells (cs.take (off + len * szOf P e) ++ rows.flatten ++ cs.drop (off + len * szOf P e + rows.flatten.length)))))
                else .stuck "append: not one's own"
              else if (len + rows.length) * P.bytesOf e ≤ 140737488355328 then
                bif ex then K (.sl (szOf P e) h.length 0 (len + rows.length) (len + rows.length) false) (h ++ [some (.cells ((cs.drop off).take (len * szOf P e) ++ rows.flatten))])
                else if wlo ≤ id ∧ off + len * szOf P e = cs.length then K (.sl (szOf P e) h.length 0 (len + rows.length) (len + rows.length) false) (h.set id none ++ [some (.cells (cs.drop off ++ rows.flatten))])
                else .stuck "append: not one's own"
              else .stuck "append: size"
            else .stuck "append: size"
          | _ => .stuck "append: gone"
        | .R id => match hget h id with
          | some (.rows n l full root) =>
            if C.sz n = szOf P e ∧ wlo ≤ id then
              match decAll n rows with
              | none => .stuck "append: a row"
              | some xs => match xs with
                | [] => K (.R id) h
                | y :: ys => if full = true ∨ ys.length = 0 then
                    .need ((l.length + (y :: ys).length) * P.bytesOf e ≤ 140737488355328) (K (.R h.length) (h.set id none ++ [some (.rows n (l ++ y :: ys) full root)]))
                  else .stuck "append: how much room"
            else .stuck "append: not one's own"
          | _ => .stuck "append: gone"
        | _ => .stuck "append: to what"
      | .typ n l' =>
        match s with
        | .a .nils => .need (l'.length * P.bytesOf e ≤ 140737488355328) (K (.R h.length) (h ++ [some (.rows n l' true h.length)]))
        | .R id => match hget h id with
          | some (.rows m l full root) =>
            if C.sz m = szOf P e ∧ wlo ≤ id ∧ full = true then
              if em : n = m then .need ((l.length + l'.length) * P.bytesOf e ≤ 140737488355328) (K (.R h.length) (h.set id none ++ [some (.rows m (l ++ castL em l') full root)]))
              else .stuck "append: rows of two kinds"
            else .stuck "append: not one's own"
          | _ => .stuck "append: gone"
        | .sl s0 id off len cap ex => match hget h id with
          | some (.cells cs) =>
            if s0 = szOf P e ∧ wlo ≤ id ∧ off + len * szOf P e = cs.length ∧ cap = len ∧ ex = false then
              match decAll n (chunkS (szOf P e) len (cs.drop off)) with
              | none => .stuck "append: a row"
              | some xs => .need ((xs.length + l'.length) * P.bytesOf e ≤ 140737488355328) (K (.R h.length) (h.set id none ++ [some (.rows n (xs ++ l') true id)]))
            else .stuck "append: to what"
          | _ => .stuck "append: gone"
        | _ => .stuck "append: to what"
    else .stuck "append: types"
  | _ => .stuck "append: types"
abbrev CallX (C : Codec) := Nat → FuncId → List (SV C.T) → SH C → (SV C.T → SH C → Tree) → Tree
def litsS {T : Nat → Type} : List (SV T) → Option (List AVal)
  | [] => some []
  | .a v :: xs => (litsS xs).map (v :: ·)
  | _ :: _ => none
def ifaceS {T : Nat → Type} : SV T → Option (TypeId × SV T)
  | .iface t v => some (t, v)
  | .a (.iface t v) => some (t, .a v)
  | _ => none
def callG (S : AStat) (noExt : FuncId → Bool) (call : CallX C) (wlo : Nat) (g : FuncId) (xs : List (SV C.T)) (h : SH C) (K : SV C.T → SH C → Tree) : Tree :=
  bif noExt g then call wlo g xs h K else match litsS xs with
  | some as => match S.ext g as with
    | some v => K (.a v) h
    | none => .stuck "ext"
  | none => .stuck "ext"
def mapUpdX (P : Program) (wlo : Nat) (t : TypeId) (h : SH C) (m x v : SV C.T) (K : SV C.T → SH C → Tree) : Tree :=
  match P.underlying t, m, intOf x with
  | some (.map kt _), .mapr id, some (.i64, n) => match keyKind P kt, hget h id with
    | some .int, some (.mp es) => bif Nat.ble wlo id then mpFork n es 0 fun r => match r with
      | some (i, m, _) => K (.a undefA) (h.set id (some (.mp (es.set i (m, v)))))
      | none => K (.a undefA) (h.set id (some (.mp (es ++ [(n, v)]))))
      else .stuck "mapUpdate: not one's own"
    | _, _ => .stuck "mapUpdate"
  | _, _, _ => .stuck "mapUpdate: of what"
def nextX (wlo : Nat) (h : SH C) (x : SV C.T) (isString : Bool) (K : SV C.T → SH C → Tree) : Tree :=
  match x, isString with
  | .ptr id 0, true => match hget h id with
    | some (.it s pos) => if wlo ≤ id then
        match s[pos]? with
        | none => K (.a (.tup [.bool false])) h
        | some c => if c < 128 then K (.a (.tup [.bool true, .int .i64 pos, .int .i32 c.toNat])) (h.set id (some (.it s (pos + 1)))) else .stuck "next: a sign"
      else .stuck "next: not one's own"
    | _ => .stuck "next: gone"
  | _, _ => .stuck "next"
def effX (S : AStat) (noExt : FuncId → Bool) (call : CallX C) (wlo : Nat) (ev : Operand → SV C.T) (h : SH C) (op : Op) (K : SV C.T → SH C → Tree) : Tree :=
  match op with
  | .store t x v => storeX S.P wlo t h (ev x) (ev v) K
  | .mapUpdate t m x v => mapUpdX S.P wlo t h (ev m) (ev x) (ev v) K
  | .next x isString => nextX wlo h (ev x) isString K
  | .call c => match c.callee with
    | .builtin .append => match c.args.toList.map ev, c.argTypes.toList with
      | [s, x], [t, u] => appendX S.P wlo t u h s x K
      | _, _ => .stuck "append"
    | .value f => match ev f with
      | .a (.fn (.func g) first captured) => callG S noExt call wlo g (first.map .a ++ c.args.toList.map ev ++ captured.map .a) h K
      | .fn (.func g) first captured => callG S noExt call wlo g (first ++ c.args.toList.map ev ++ captured) h K
      | _ => .stuck "call of what"
    | .invoke r name => match ifaceS (ev r) with
      | some (t, v) => match S.meth t name, nkS v with
        | some g, some (.p, _) => call wlo g (v :: c.args.toList.map ev) h K
        | _, _ => match v, litsS (c.args.toList.map ev) with
          | .a v0, some as => match S.methV t name v0 with
            | some (g, v1) => match S.ext g (v1 :: as) with
              | some w => K (.a w) h
              | none => .stuck "ext"
            | none => .stuck "invoke"
          | _, _ => .stuck "invoke"
      | none => .stuck "invoke"
    | _ => .stuck "builtin"
  | _ => .stuck "no such operation"
noncomputable def sPut (r : SR C) (dst : Option Tmp) (v : SV C.T) : SR C :=
  match dst with
  | some d => r.set d v
  | none => r
noncomputable def guardX (ops : List Oper) (r : SR C) (o : Oper) (yes no : SR C → Tree) : Tree :=
  match o.guard with
  | none => yes r
  | some (j, want) =>
    match (ops[j]?).bind (·.dst) with
    | none => no r
    | some d => bif Nat.blt d r.n then
        match r.get d with
        | .a (.bool b) => bif b == want then yes r else no r
        | .a (.tup _) => no r
        | .b t => bif want then .fork t (yes (r.set d (.a (.bool true)))) (no (r.set d (.a (.bool false)))) else .fork t (no (r.set d (.a (.bool true)))) (yes (r.set d (.a (.bool false))))
        | _ => .stuck "guard"
      else no r
structure Cf (C : Codec) where
  S : AStat
  noExt : FuncId → Bool
noncomputable def opX (F : Cf C) (call : CallX C) (wlo : Nat) (r : SR C) (h : SH C) (o : Oper) (K : SV C.T → SH C → Tree) : Tree :=
  bif isNewB o.op then newX F.S (sEval F.S r.get) o.op fun ob mk => K (mk h.length) (h ++ [some (ob h.length)])
  else bif isEffB o.op then effX F.S F.noExt call wlo (sEval F.S r.get) h o.op K
  else bif isBytesB F.S.P o.op then bytesX F.S.P (sEval F.S r.get) o.op fun ob mk => K (mk h.length) (h ++ [some (ob h.length)])
  else quietX F.S wlo (sEval F.S r.get) h o.op K
noncomputable def opsX (F : Cf C) (call : CallX C) (wlo : Nat) (ops : List Oper) : List Oper → SR C → SH C → (SR C → SH C → Tree) → Tree
  | [], r, h, K => K r h
  | o :: rest, r, h, K => guardX ops r o
      (fun r => opX F call wlo r h o fun v h' => opsX F call wlo ops rest (sPut r o.dst v) h' K)
      (fun r => opsX F call wlo ops rest (sPut r o.dst (.a undefA)) h K)
inductive Kt where
  | c (x : Code)
  | blk (id : Nat)
  | lp (b : Code)
def unwind (i : Nat) : List Kt → Option (List Kt)
  | [] => none
  | .blk id :: k => bif Nat.beq i id then some k else unwind i k
  | .c _ :: k => unwind i k
  | .lp _ :: k => unwind i k
end Go.Sy

/- How the shape of a memory is carried along as objects come, turn and go. Generic: over any program. -/
namespace Go.Sy
open Go.Am
set_option linter.unusedVariables false
variable {C : Codec} {E : Env}
structure LeN (n N : Nat) (E E' : Env) : Prop where
  le : E.le E'
  old : ∀ id, id < n → E'.β id = E.β id ∧ E'.γ id = E.γ id
  fr : ∀ b cs, E'.Fr b cs → E.Fr b cs
  own : ∀ b r, E'.ω b = some r → E.ω b = some r ∨ N ≤ b
theorem LeN.refl {N : Nat} (n : Nat) (E : Env) : LeN n N E E := ⟨Env.le.refl E, fun _ _ => ⟨rfl, rfl⟩, fun _ _ h => h, fun _ _ h => .inl h⟩
theorem LeN.trans {n m N M : Nat} {E E' E'' : Env} (hnm : n ≤ m) (hNM : N ≤ M) (h : LeN n N E E') (k : LeN m M E' E'') : LeN n N E E'' :=
  ⟨h.le.trans k.le, fun id hid => ⟨(k.old id (by omega)).1.trans (h.old id hid).1, (k.old id (by omega)).2.trans (h.old id hid).2⟩, fun b cs x => h.fr b cs (k.fr b cs x), fun b r x => by
    rcases k.own b r x with h1 | h1
    · exact h.own b r h1
    · exact .inr (by omega)⟩
def Env.put (E : Env) (n : Nat) (β' : Option Nat) (a : AVal) (root : Nat) : Env where
  β := fun i => if i = n then β' else E.β i
  γ := fun i => if i = n then some a else E.γ i
  ω := fun b => if β' = some b then some root else E.ω b
  Fr := E.Fr
theorem ObjOk.heap {H H' : Heap} {id : Nat} {o : Obj C.T} (hb : ∀ b, E.β id = some b → H'[b]? = H[b]?) (h : ObjOk E H id o) : ObjOk E H' id o := by
  cases o with
  | cells cs =>
    obtain ⟨b, as, h1, hw, h2, h3⟩ := h
    exact ⟨b, as, h1, hw, by rw [hb b h1]; exact h2, h3⟩
  | mp es =>
    obtain ⟨b, as, h1, hw, h2, h3⟩ := h
    exact ⟨b, as, h1, hw, by rw [hb b h1]; exact h2, h3⟩
  | it s pos =>
    obtain ⟨b, h1, hw, h2⟩ := h
    exact ⟨b, h1, hw, by rw [hb b h1]; exact h2⟩
  | rows n l full root =>
    rcases h with h | ⟨b, off, cap, ex, as, h1, h2, hw, h3, h4⟩
    · exact .inl h
    · exact .inr ⟨b, off, cap, ex, as, h1, h2, hw, by rw [hb b h2]; exact h3, h4⟩
theorem lt_of_some {α : Type} {l : List α} {i : Nat} {a : α} (h : l[i]? = some a) : i < l.length := by
  rcases Nat.lt_or_ge i l.length with k | k
  · exact k
  · rw [List.getElem?_eq_none k] at h; cases h
theorem SimH.putN {lo wlo N : Nat} {h : SH C} {H H' : Heap} (hS : SimH E lo wlo h H) (id : Nat) (o' : Obj C.T) (β' : Option Nat) (a : AVal) (root : Nat) (hl : H.length ≤ H'.length)
    (hX : ∀ b, b < H.length → H'[b]? ≠ H[b]? → (∀ cs, ¬ E.Fr b cs) ∧ ∀ (i : Nat) (o : Obj C.T), i ≠ id → h[i]? = some (some o) → E.β i ≠ some b)
    (hb : ∀ b, β' = some b → b < H'.length ∧ lo ≤ b ∧ (∀ cs, ¬ E.Fr b cs) ∧ (∀ (i : Nat) (o : Obj C.T), i ≠ id → h[i]? = some (some o) → E.β i ≠ some b) ∧ ((E.ω b = none ∧ N ≤ b) ∨ E.ω b = some root))
    (ho : LeN h.length N E (E.put h.length β' a root) → ObjOk (E.put h.length β' a root) H' h.length o') :
    LeN h.length N E (E.put h.length β' a root) ∧ SimH (E.put h.length β' a root) lo wlo (h.set id none ++ [some o']) H' := by
  have fresh := hS.fresh h.length (Nat.le_refl _)
  have hle : LeN h.length N E (E.put h.length β' a root) := by
    refine ⟨⟨?_, ?_, ?_, fun _ _ h => h⟩, ?_, fun _ _ h => h, ?_⟩
    · intro i b hi
      simp only [Env.put]
      split
      · rename_i e; subst e; rw [fresh.1] at hi; cases hi
      · exact hi
    · intro i b hi
      simp only [Env.put]
      split
      · rename_i e; subst e; rw [fresh.2] at hi; cases hi
      · exact hi
    · intro b r hr
      simp only [Env.put]
      split
      · rename_i e
        rcases (hb b e).2.2.2.2 with h1 | h1
        · rw [h1.1] at hr; cases hr
        · rw [h1] at hr; exact hr
      · exact hr
    · intro i hi
      simp only [Env.put]
      rw [if_neg (by omega), if_neg (by omega)]
      exact ⟨rfl, rfl⟩
    · intro b r hr
      simp only [Env.put] at hr
      split at hr
      · rename_i e
        rcases (hb b e).2.2.2.2 with h1 | h1
        · exact .inr h1.2
        · left; rw [h1]; exact hr
      · exact .inl hr
  refine ⟨hle, ?_⟩
  have hold : ∀ (i : Nat) (o : Obj C.T), (h.set id none ++ [some o'])[i]? = some (some o) → (i ≠ id ∧ i < h.length ∧ h[i]? = some (some o)) ∨ (i = h.length ∧ o = o') := by
    intro i o hi
    rcases Nat.lt_or_ge i h.length with k | k
    · rw [List.getElem?_append_left (by simpa using k), List.getElem?_set] at hi
      split at hi
      · split at hi <;> cases hi
      · rename_i e
        exact .inl ⟨fun x => e x.symm, k, hi⟩
    · rw [List.getElem?_append_right (by simpa using k)] at hi
      rw [List.length_set] at hi
      rcases Nat.eq_or_lt_of_le k with e | e
      · rw [← e] at hi
        simp at hi
        exact .inr ⟨e.symm, hi.symm⟩
      · rw [List.getElem?_eq_none (by simp; omega)] at hi
        cases hi
  have same : ∀ (i : Nat) (o : Obj C.T), i ≠ id → h[i]? = some (some o) → ∀ b, E.β i = some b → H'[b]? = H[b]? := by
    intro i o h1 h2 b h3
    by_cases e : H'[b]? = H[b]?
    · exact e
    · exact ((hX b (hS.bnd i b h3) e).2 i o h1 h2 h3).elim
  refine ⟨?_, ?_, ?_, ?_, ?_, ?_, ?_, ?_, ?_, ?_⟩
  · intro i o hi
    rcases hold i o hi with ⟨h1, h2, h3⟩ | ⟨rfl, rfl⟩
    · refine ((hS.obj i o h3).heap (same i o h1 h3)).mono hle.le ?_
      intro hn
      rw [(hle.old i h2).1]
      exact hn
    · exact ho hle
  · intro i i' o p b hi hi' hb1 hb2
    rcases hold i o hi with ⟨h1, h2, h3⟩ | ⟨rfl, rfl⟩ <;> rcases hold i' p hi' with ⟨h4, h5, h6⟩ | ⟨h4, rfl⟩
    · rw [(hle.old i h2).1] at hb1
      rw [(hle.old i' h5).1] at hb2
      exact hS.inj i i' o p b h3 h6 hb1 hb2
    · rw [(hle.old i h2).1] at hb1
      subst h4
      simp only [Env.put, if_true] at hb2
      exact ((hb b hb2).2.2.2.1 i o h1 h3 hb1).elim
    · rw [(hle.old i' h5).1] at hb2
      simp only [Env.put, if_true] at hb1
      exact ((hb b hb1).2.2.2.1 i' p h4 h6 hb2).elim
    · exact h4.symm
  · intro b cs hf
    obtain ⟨h1, h2⟩ := hS.fr b cs hf
    refine ⟨?_, ?_⟩
    · by_cases e : H'[b]? = H[b]?
      · rw [e]; exact h1
      · exact ((hX b (lt_of_some h1) e).1 cs hf).elim
    · intro i o hi
      rcases hold i o hi with ⟨h3, h4, h5⟩ | ⟨rfl, rfl⟩
      · rw [(hle.old i h4).1]
        exact h2 i o h5
      · simp only [Env.put, if_true]
        exact fun e => (hb b e).2.2.1 cs hf
  · intro i hi
    have hi : h.length + 1 ≤ i := by simpa using hi
    simp only [Env.put]
    rw [if_neg (by omega), if_neg (by omega)]
    exact hS.fresh i (by omega)
  · intro i b hi hb1
    simp only [Env.put] at hb1
    split at hb1
    · exact (hb b hb1).2.1
    · exact hS.low i b hi hb1
  · intro i b hb1
    simp only [Env.put] at hb1
    split at hb1
    · exact (hb b hb1).1
    · exact Nat.lt_of_lt_of_le (hS.bnd i b hb1) hl
  · intro b r hr
    simp only [Env.put] at hr
    split at hr
    · rename_i e
      exact ⟨(hb b e).1, (hb b e).2.2.1⟩
    · exact ⟨Nat.lt_of_lt_of_le (hS.own b r hr).1 hl, (hS.own b r hr).2⟩
  · intro i b hb1
    simp only [Env.put] at hb1 ⊢
    split at hb1
    · rw [if_pos hb1]
      exact ⟨root, rfl⟩
    · split
      · exact ⟨root, rfl⟩
      · exact hS.βω i b hb1
  · have := hS.wl
    simp
    omega
  · exact Nat.le_trans hS.ll hl
theorem SimH.put {lo wlo : Nat} {h : SH C} {H H' : Heap} (hS : SimH E lo wlo h H) (id : Nat) (o' : Obj C.T) (β' : Option Nat) (a : AVal) (root : Nat) (hl : H.length ≤ H'.length)
    (hX : ∀ b, b < H.length → H'[b]? ≠ H[b]? → (∀ cs, ¬ E.Fr b cs) ∧ ∀ (i : Nat) (o : Obj C.T), i ≠ id → h[i]? = some (some o) → E.β i ≠ some b)
    (hb : ∀ b, β' = some b → b < H'.length ∧ lo ≤ b ∧ (∀ cs, ¬ E.Fr b cs) ∧ (∀ (i : Nat) (o : Obj C.T), i ≠ id → h[i]? = some (some o) → E.β i ≠ some b) ∧ ((E.ω b = none ∧ H.length ≤ b) ∨ E.ω b = some root))
    (ho : LeN h.length H.length E (E.put h.length β' a root) → ObjOk (E.put h.length β' a root) H' h.length o') :
    LeN h.length H.length E (E.put h.length β' a root) ∧ SimH (E.put h.length β' a root) lo wlo (h.set id none ++ [some o']) H' := hS.putN id o' β' a root hl hX hb ho
theorem SimH.upd {lo wlo : Nat} {h : SH C} {H H' : Heap} (hS : SimH E lo wlo h H) {id : Nat} {o o' : Obj C.T} (hid : h[id]? = some (some o)) (hl : H.length ≤ H'.length)
    (hX : ∀ b, b < H.length → H'[b]? ≠ H[b]? → E.β id = some b) (ho : ObjOk E H' id o') : SimH E lo wlo (h.set id (some o')) H' := by
  have hold : ∀ (i : Nat) (p : Obj C.T), (h.set id (some o'))[i]? = some (some p) → (i ≠ id ∧ h[i]? = some (some p)) ∨ (i = id ∧ p = o') := by
    intro i p hi
    rw [List.getElem?_set] at hi
    split at hi
    · rename_i e
      split at hi
      · simp only [Option.some.injEq] at hi
        exact .inr ⟨e.symm, hi.symm⟩
      · cases hi
    · rename_i e
      exact .inl ⟨fun x => e x.symm, hi⟩
  have live : ∀ (i : Nat) (p : Obj C.T), (h.set id (some o'))[i]? = some (some p) → ∃ q, h[i]? = some (some q) := by
    intro i p hi
    rcases hold i p hi with ⟨_, h2⟩ | ⟨rfl, _⟩
    · exact ⟨_, h2⟩
    · exact ⟨_, hid⟩
  refine ⟨?_, ?_, ?_, ?_, hS.low, ?_, ?_, hS.βω, ?_, Nat.le_trans hS.ll hl⟩
  · intro i p hi
    rcases hold i p hi with ⟨h1, h2⟩ | ⟨rfl, rfl⟩
    · refine (hS.obj i p h2).heap fun b hb => ?_
      by_cases e : H'[b]? = H[b]?
      · exact e
      · exact (h1 (hS.inj i id p o b h2 hid hb (hX b (hS.bnd i b hb) e))).elim
    · exact ho
  · intro i i' p q b hi hi' h1 h2
    obtain ⟨p', hp⟩ := live i p hi
    obtain ⟨q', hq⟩ := live i' q hi'
    exact hS.inj i i' p' q' b hp hq h1 h2
  · intro b cs hf
    obtain ⟨h1, h2⟩ := hS.fr b cs hf
    refine ⟨?_, fun i p hi => ?_⟩
    · by_cases e : H'[b]? = H[b]?
      · rw [e]; exact h1
      · exact (h2 id o hid (hX b (lt_of_some h1) e)).elim
    · obtain ⟨q, hq⟩ := live i p hi
      exact h2 i q hq
  · intro i hi
    exact hS.fresh i (by simpa using hi)
  · intro i b hb
    exact Nat.lt_of_lt_of_le (hS.bnd i b hb) hl
  · intro b r hr
    exact ⟨Nat.lt_of_lt_of_le (hS.own b r hr).1 hl, (hS.own b r hr).2⟩
  · have := hS.wl
    simpa using this
theorem SimH.push {lo wlo : Nat} (N : Nat) {h : SH C} {H H' : Heap} (hS : SimH E lo wlo h H) (o' : Obj C.T) (a : AVal) (p : Nat) (hp : p < H'.length) (hlo : lo ≤ p) (hN : N ≤ p) (hn : H[p]? = none ∨ (H[p]? = some none ∧ E.ω p = none)) (hl : H.length ≤ H'.length)
    (hX : ∀ b, b < H.length → b ≠ p → H'[b]? = H[b]?) (ho : LeN h.length N E (E.put h.length (some p) a h.length) → ObjOk (E.put h.length (some p) a h.length) H' h.length o') :
    LeN h.length N E (E.put h.length (some p) a h.length) ∧ SimH (E.put h.length (some p) a h.length) lo wlo (h ++ [some o']) H' := by
  have nofr : ∀ cs, ¬ E.Fr p cs := by
    intro cs hf
    have := (hS.fr p cs hf).1
    rcases hn with h1 | ⟨h1, _⟩ <;> rw [h1] at this <;> cases this
  have noβ : ∀ i, E.β i ≠ some p := by
    intro i hi
    rcases hn with h1 | ⟨_, h2⟩
    · have := hS.bnd i p hi
      rw [List.getElem?_eq_none_iff] at h1
      omega
    · obtain ⟨r, hr⟩ := hS.βω i p hi
      rw [h2] at hr
      cases hr
  have noω : E.ω p = none := by
    rcases hn with h1 | ⟨_, h2⟩
    · cases hw : E.ω p with
      | none => rfl
      | some r =>
        have := (hS.own p r hw).1
        rw [List.getElem?_eq_none_iff] at h1
        omega
    · exact h2
  have := hS.putN (N := N) h.length o' (some p) a h.length hl (fun b hb hne => by
    by_cases e : b = p
    · subst e
      exact ⟨nofr, fun i o _ _ => noβ i⟩
    · exact (hne (hX b hb e)).elim) (fun b hb => by
    simp only [Option.some.injEq] at hb
    subst hb
    exact ⟨hp, hlo, nofr, fun i o _ _ => noβ i, .inl ⟨noω, hN⟩⟩) ho
  have e : h.set h.length none = h := by
    apply List.ext_getElem?
    intro j
    rw [List.getElem?_set]
    split
    · rename_i hj
      subst hj
      simp
    · rfl
  rw [e] at this
  exact this
end Go.Sy

/- That a region whose order is open keeps to the idealised one, in whatever order: what holds on the way. Generic: over any program. -/
import Derived.Test.YtomlcdalhihnaaaDoorAmDraw
namespace Go.Am
set_option linter.unusedVariables false
open Go.RowKit

/-- The idealised run, as it was told. -/
structure Tra (S : AStat) (call : CallF) (lo n0 : Nat) (ops : Array Oper) (B : List Nat) (reads : List (Nat × Nat)) (touches : List (Nat × Option (List Nat))) (ρs : Nat → List AVal) (Hs : Nat → Heap) : Prop where
  step : ∀ j o, ops[j]? = some o → DStep S call lo n0 ops B reads touches j o (ρs j) (Hs j) (ρs (j + 1)) (Hs (j + 1))
  pair : PairOk ops B
  bits : Bits ops B
  lt : ∀ i k, (B.getD i 0).testBit k = true → k < i
  apart : apartB B reads touches = true
  still : CallStill S call
  wide : ∀ m, m < ops.size → newAt ops m = true → n0 + m < (Hs 0).length

variable {S : AStat} {call : CallF} {lo n0 : Nat} {ops : Array Oper} {B : List Nat} {reads : List (Nat × Nat)} {touches : List (Nat × Option (List Nat))} {ρs : Nat → List AVal} {Hs : Nat → Heap}

theorem putA_length (ρ : List AVal) (d : Option Tmp) (v : AVal) : (putA ρ d v).length = ρ.length := by cases d <;> simp [putA]

theorem putA_other (ρ : List AVal) (d : Option Tmp) (v : AVal) (s : Nat) (h : d ≠ some s) : (putA ρ d v).getD s undefA = ρ.getD s undefA := by
  cases d with
  | none => rfl
  | some d =>
    have : d ≠ s := fun e => h (by rw [e])
    simp only [putA, List.getD_eq_getElem?_getD, List.getElem?_set, if_neg this]

theorem Tra.put (T : Tra S call lo n0 ops B reads touches ρs Hs) {j : Nat} {o : Oper} (ho : ops[j]? = some o) : ∃ v, ρs (j + 1) = putA (ρs j) o.dst v := by
  cases T.step j o ho with
  | skip _ h _ => exact ⟨_, h⟩
  | new _ _ _ _ _ _ h _ => exact ⟨_, h⟩
  | eff _ _ _ _ _ _ _ h _ _ => exact ⟨_, h⟩
  | quiet _ _ _ _ _ h _ _ => exact ⟨_, h⟩

theorem Tra.slot (T : Tra S call lo n0 ops B reads touches ρs Hs) (s : Nat) : ∀ (d p : Nat), p + d ≤ ops.size → (∀ j, p ≤ j → j < p + d → dstAt ops j ≠ some s) → (ρs (p + d)).getD s undefA = (ρs p).getD s undefA
  | 0, p, _, _ => rfl
  | d + 1, p, hn, h => by
    have hlt : p + d < ops.size := by omega
    obtain ⟨v, hv⟩ := T.put (j := p + d) (o := ops[p + d]) (by simp [hlt])
    rw [show p + (d + 1) = p + d + 1 by omega, hv, putA_other _ _ _ _ (by have := h (p + d) (by omega) (by omega); simpa [dstAt, hlt] using this)]
    exact T.slot s d p (by omega) fun j h1 h2 => h j h1 (by omega)

theorem Tra.len (T : Tra S call lo n0 ops B reads touches ρs Hs) : ∀ k, k ≤ ops.size → (ρs k).length = (ρs 0).length
  | 0, _ => rfl
  | k + 1, h => by
    obtain ⟨v, hv⟩ := T.put (j := k) (o := ops[k]'(by omega)) (by simp [show k < ops.size by omega])
    rw [hv, putA_length]
    exact T.len k (by omega)

/-- The operation makes a block, and was wanted. -/
def newW (S : AStat) (ops : Array Oper) (ρs : Nat → List AVal) (j : Nat) : Bool :=
  match ops[j]? with
  | some o => isNewB o.op && guardA ops.toList (ρs j) o == some true
  | none => false

def isN (S : AStat) (ops : Array Oper) (ρs : Nat → List AVal) (n0 b : Nat) : Bool := decide (n0 ≤ b) && newW S ops ρs (b - n0)

/-- A block that this step leaves as it is. -/
def Keep (Hs : Nat → Heap) (j b : Nat) : Prop := b < (Hs j).length → (Hs (j + 1))[b]? = (Hs j)[b]? ∧ b < (Hs (j + 1)).length

theorem keep_chain (b : Nat) : ∀ (d p : Nat), b < (Hs p).length → (∀ j, p ≤ j → j < p + d → Keep Hs j b) → (Hs (p + d))[b]? = (Hs p)[b]? ∧ b < (Hs (p + d)).length
  | 0, p, h, _ => ⟨rfl, h⟩
  | d + 1, p, h, hk => by
    obtain ⟨h1, h2⟩ := keep_chain b d p h fun j g1 g2 => hk j g1 (by omega)
    obtain ⟨h3, h4⟩ := hk (p + d) (by omega) (by omega) h2
    exact ⟨h3.trans h1, h4⟩

theorem keep_chain' {b p q : Nat} (hpq : p ≤ q) (h : b < (Hs p).length) (hk : ∀ j, p ≤ j → j < q → Keep Hs j b) : (Hs q)[b]? = (Hs p)[b]? ∧ b < (Hs q).length := by
  have := keep_chain (Hs := Hs) b (q - p) p h fun j h1 h2 => hk j h1 (by omega)
  rwa [show p + (q - p) = q by omega] at this

/-- No effect, and not the block's own making. -/
theorem Tra.keep_calm (T : Tra S call lo n0 ops B reads touches ρs Hs) {j b : Nat} (hj : j < ops.size) (he : effAt ops j = false) (hn : newW S ops ρs j = true → b ≠ n0 + j) : Keep Hs j b := by
  intro hb
  have ho : ops[j]? = some ops[j] := by simp [hj]
  cases T.step j _ ho with
  | skip _ _ h => rw [h]; exact ⟨rfl, hb⟩
  | new hg hnw _ _ _ _ _ h =>
    have : newW S ops ρs j = true := by simp [newW, ho, hnw, hg]
    rw [h]
    exact ⟨by rw [List.getElem?_set, if_neg (fun e => hn this e.symm)], by simpa using hb⟩
  | eff _ _ h _ _ _ _ _ _ _ => simp [effAt, ho] at he; rw [he] at h; cases h
  | quiet _ _ _ _ _ _ h _ => rw [h]; exact ⟨rfl, hb⟩

/-- An effect, the block out of its sight. -/
theorem Tra.keep_hidden (T : Tra S call lo n0 ops B reads touches ρs Hs) {j m : Nat} (hj : j < ops.size) (he : effAt ops j = true) (hm : m < ops.size) (hn : newAt ops m = true) (hb : (B.getD j 0).testBit m = false) : Keep Hs j (n0 + m) := by
  intro hl
  have ho : ops[j]? = some ops[j] := by simp [hj]
  cases T.step j _ ho with
  | skip _ _ h => rw [h]; exact ⟨rfl, hl⟩
  | new _ hnw _ _ _ _ _ _ =>
    simp [effAt, ho] at he
    exfalso
    generalize (ops[j]).op = op at *
    cases op <;> simp [isNewB, isEffB] at hnw he
  | eff _ _ _ v H1 _ hlen _ h _ =>
    rw [h]
    rw [unhide_length]
    rw [unhide_get, if_pos ⟨mem_hidden.2 ⟨m, hm, hn, hb, rfl⟩, by omega⟩]
    refine ⟨?_, by omega⟩
    rw [List.getD_eq_getElem?_getD, List.getElem?_eq_getElem hl]
    rfl
  | quiet _ _ hq _ _ _ _ _ => simp [effAt, ho] at he; rw [he] at hq; cases hq

/-- An effect that a look is not ordered with. -/
theorem Tra.keep_far (T : Tra S call lo n0 ops B reads touches ρs Hs) {i j b : Nat} (hj : j < ops.size) (he : effAt ops j = true) (hr : (i, b) ∈ reads) (h1 : (B.getD i 0).testBit j = false) (h2 : (B.getD j 0).testBit i = false) : Keep Hs j b := by
  intro hl
  have ho : ops[j]? = some ops[j] := by simp [hj]
  cases T.step j _ ho with
  | skip _ _ h => rw [h]; exact ⟨rfl, hl⟩
  | new _ hnw _ _ _ _ _ _ =>
    simp [effAt, ho] at he
    exfalso
    generalize (ops[j]).op = op at *
    cases op <;> simp [isNewB, isEffB] at hnw he
  | eff _ _ _ v H1 heff _ _ h ht =>
    have hap := T.apart
    unfold apartB at hap
    rw [List.all_eq_true] at hap
    have := hap _ hr
    rw [List.all_eq_true] at this
    have := this _ ht
    simp only [h1, h2, Bool.false_or] at this
    split at this
    · rename_i l hl'
      have hnl : b ∉ l := by simpa using this
      obtain ⟨g1, g2⟩ := eff_keeps T.still heff hl'
      rw [hide_length] at g1 g2
      rw [h, unhide_length, unhide_get]
      refine ⟨?_, by omega⟩
      split
      · rw [List.getD_eq_getElem?_getD, List.getElem?_eq_getElem hl]
        rfl
      · rename_i hnh
        rw [g2 b hl hnl, hide_get, if_neg]
        intro ⟨h3, _⟩
        exact hnh ⟨h3, by omega⟩
    · cases this
  | quiet _ _ hq _ _ _ _ _ => simp [effAt, ho] at he; rw [he] at hq; cases hq

theorem Tra.mono1 (T : Tra S call lo n0 ops B reads touches ρs Hs) {j : Nat} (hj : j < ops.size) : (Hs j).length ≤ (Hs (j + 1)).length := by
  cases T.step j _ (show ops[j]? = some ops[j] by simp [hj]) with
  | skip _ _ h => rw [h]; exact Nat.le_refl _
  | new _ _ _ _ _ _ _ h => rw [h]; simp
  | eff _ _ _ _ _ _ hl _ h _ => rw [h, unhide_length]; exact hl
  | quiet _ _ _ _ _ _ h _ => rw [h]; exact Nat.le_refl _

theorem Tra.mono (T : Tra S call lo n0 ops B reads touches ρs Hs) {p : Nat} : ∀ (q : Nat), p ≤ q → q ≤ ops.size → (Hs p).length ≤ (Hs q).length
  | 0, h, _ => by have : p = 0 := by omega
                  subst this; exact Nat.le_refl _
  | q + 1, h, hq => by
    rcases Nat.eq_or_lt_of_le h with h1 | h1
    · rw [h1]; exact Nat.le_refl _
    · exact Nat.le_trans (T.mono q (by omega) (by omega)) (T.mono1 (by omega))

/-- Steps without an effect leave the length. -/
theorem Tra.calm_len (T : Tra S call lo n0 ops B reads touches ρs Hs) : ∀ (d p : Nat), p + d ≤ ops.size → (∀ j, p ≤ j → j < p + d → effAt ops j = false) → (Hs (p + d)).length = (Hs p).length
  | 0, _, _, _ => rfl
  | d + 1, p, hn, h => by
    have hlt : p + d < ops.size := by omega
    have ih := T.calm_len d p (by omega) fun j h1 h2 => h j h1 (by omega)
    rw [← ih, show p + (d + 1) = p + d + 1 by omega]
    have he := h (p + d) (by omega) (by omega)
    have ho : ops[p + d]? = some ops[p + d] := by simp [hlt]
    cases T.step (p + d) _ ho with
    | skip _ _ h => rw [h]
    | new _ _ _ _ _ _ _ h => rw [h]; simp
    | eff _ _ h _ _ _ _ _ _ _ => simp [effAt, ho] at he; rw [he] at h; cases h
    | quiet _ _ _ _ _ _ h _ => rw [h]

/-- When a block was last turned by what has been done. -/
def tm (S : AStat) (ops : Array Oper) (ρs : Nat → List AVal) (n0 tE b : Nat) : Nat := if isN S ops ρs n0 b then max tE (b - n0 + 1) else tE

/-- The memory as it stands where D has been done, tE behind its last effect. -/
def HD (S : AStat) (ops : Array Oper) (ρs : Nat → List AVal) (Hs : Nat → Heap) (n0 : Nat) (D : Nat → Bool) (tE : Nat) : Heap :=
  (List.range (Hs tE).length).map fun b => if isN S ops ρs n0 b && !D (b - n0) then none else (Hs (tm S ops ρs n0 tE b)).getD b none

theorem HD_length (D : Nat → Bool) (tE : Nat) : (HD S ops ρs Hs n0 D tE).length = (Hs tE).length := by simp [HD]

theorem HD_live {D : Nat → Bool} {tE b : Nat} {blk : ABlk} : (HD S ops ρs Hs n0 D tE)[b]? = some (some blk) ↔
    b < (Hs tE).length ∧ (isN S ops ρs n0 b = true → D (b - n0) = true) ∧ (Hs (tm S ops ρs n0 tE b))[b]? = some (some blk) := by
  unfold HD
  rcases Nat.lt_or_ge b (Hs tE).length with h | h
  · rw [List.getElem?_map, List.getElem?_range h]
    simp only [Option.map_some, h, true_and, Option.some.injEq]
    by_cases hn : isN S ops ρs n0 b = true
    · by_cases hD : D (b - n0) = true
      · simp only [hn, hD, Bool.not_true, Bool.and_false, Bool.false_eq_true, if_false, implies_true, true_and]
        rw [List.getD_eq_getElem?_getD]
        cases (Hs (tm S ops ρs n0 tE b))[b]? <;> simp
      · simp only [Bool.not_eq_true] at hD
        simp [hn, hD]
    · simp only [Bool.not_eq_true] at hn
      simp only [hn, Bool.false_and, Bool.false_eq_true, if_false, false_implies, true_and]
      rw [List.getD_eq_getElem?_getD]
      cases (Hs (tm S ops ρs n0 tE b))[b]? <;> simp
  · rw [List.getElem?_eq_none (by simpa using h)]
    simp
    omega

structure Inv (S : AStat) (lo n0 : Nat) (ops : Array Oper) (ρs : Nat → List AVal) (Hs : Nat → Heap) (c0 : Cx) (H0 : Heap) (D : Nat → Bool) (tE : Nat) (c : Cx) (a : Act) : Prop where
  tEn : tE ≤ ops.size
  eff : ∀ j, D j = true → effAt ops j = true → j < tE
  last : tE = 0 ∨ ∃ p, tE = p + 1 ∧ D p = true ∧ effAt ops p = true
  slots : ∀ s, ∃ t, t ≤ ops.size ∧ (t = 0 ∨ ∃ p, t = p + 1 ∧ D p = true ∧ dstAt ops p = some s) ∧ (∀ j, D j = true → dstAt ops j = some s → j < t) ∧ V c ((ρs t).getD s undefA) (a.tmps.getD s undef)
  size : a.tmps.size = (ρs 0).length
  rel : Rel c (HD S ops ρs Hs n0 D tE)
  tr : Tr c0 H0 c (HD S ops ρs Hs n0 D tE)
  low : Low lo c0 H0 c (HD S ops ρs Hs n0 D tE)
  undone : ∀ m, newW S ops ρs m = true → D m = false → c.ι (n0 + m) = none
  defers : a.defers = []
  down : ∀ i o, ops[i]? = some o → D i = true → ∀ e ∈ o.after.toList, Region.binds .any e = true → D e.on = true
  dlt : ∀ i, D i = true → i < ops.size
  glob : GlobOk S c
  base : H0.length ≤ n0

/-- What is ready. -/
structure Ready (ops : Array Oper) (D : Nat → Bool) (i : Nat) (o : Oper) : Prop where
  op : ops[i]? = some o
  not : D i = false
  pre : ∀ e ∈ o.after.toList, Region.binds .any e = true → D e.on = true

theorem Ready.bit {D : Nat → Bool} {i : Nat} {o : Oper} (hr : Ready ops D i o) (hb : Bits ops B) (hlt : ∀ i k, (B.getD i 0).testBit k = true → k < i)
    (down : ∀ i o, ops[i]? = some o → D i = true → ∀ e ∈ o.after.toList, Region.binds .any e = true → D e.on = true) {k : Nat} (hk : (B.getD i 0).testBit k = true) : D k = true := by
  have hi : i < ops.size := (Array.getElem?_eq_some_iff.1 hr.op).1
  have := hb (fun x => D x || x == i) (by
    intro x o' ho' hx e he hbd
    simp only [Bool.or_eq_true, beq_iff_eq] at hx ⊢
    rcases hx with hx | hx
    · exact .inl (down x o' ho' hx e he hbd)
    · subst hx
      rw [hr.op] at ho'
      cases ho'
      exact .inl (hr.pre e he hbd)) i k hi (by simp) hk
  simp only [Bool.or_eq_true, beq_iff_eq] at this
  rcases this with h | h
  · exact h
  · have := hlt i k hk
    omega

end Go.Am

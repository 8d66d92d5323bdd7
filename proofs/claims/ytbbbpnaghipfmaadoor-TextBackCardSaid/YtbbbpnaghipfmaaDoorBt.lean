/- What is printed has its program's lines, empty ones between or not: plain. -/
import Derived.Test.YtbbbpnaghipfmaaDoorPa
namespace Go.Proofs.YtbbbpnaghipfmaaDoor
open Go.RowKit Go.Am Go.Sy
set_option linter.unusedVariables false
set_option linter.unusedSimpArgs false

theorem pk_range (x : Int) {m : Int} (h0 : 0 < m) (h1 : m ≤ 1000) : 0 ≤ pk x m ∧ pk x m < m := by
  have hw : IntKind.u64.wrap x = x % 18446744073709551616 := by
    simp only [IntKind.wrap, IntKind.signed, IntKind.bits]
    simp
  unfold pk
  rw [hw, Int.tmod_eq_emod_of_nonneg (by omega)]
  have h2 : 0 ≤ x % 18446744073709551616 % m := Int.emod_nonneg _ (by omega)
  have h3 : x % 18446744073709551616 % m < m := Int.emod_lt_of_pos _ h0
  rw [wrap64 (by omega) (by omega)]
  exact ⟨h2, h3⟩
theorem may_ins (k : K4) (n : Int) : mayB (insF k n false) = true := by
  have h22 := pk_range k.a (m := 22) (by decide) (by decide)
  obtain ⟨a0, a1⟩ := pk_range k.b (m := 4) (by decide) (by decide)
  obtain ⟨b0, b1⟩ := pk_range k.c (m := 4) (by decide) (by decide)
  obtain ⟨c0, c1⟩ := pk_range k.d (m := 4) (by decide) (by decide)
  have hop : IntKind.i64.wrap (1 + pk k.a 22) = 1 + pk k.a 22 := wrap64 (by omega) (by omega)
  have hb : (pk k.c 4).tmod 2 = pk k.c 4 % 2 := Int.tmod_eq_emod_of_nonneg b0
  unfold insF
  rw [if_neg (by decide), hop]
  dsimp only
  rw [hb]
  generalize pk k.b 4 = a at *
  generalize pk k.c 4 = b at *
  generalize pk k.d 4 = c at *
  have h1 : 1 ≤ 1 + pk k.a 22 := by omega
  have h2 : 1 + pk k.a 22 ≤ 22 := by omega
  generalize 1 + pk k.a 22 = op at *
  rcases op_cases h1 h2 with rfl | rfl | rfl | rfl | rfl | rfl | rfl | rfl | rfl | rfl | rfl | rfl | rfl | rfl | rfl | rfl | rfl | rfl | rfl | rfl | rfl | rfl <;> simp [mayB, fitB, shA, shB, shC, shN, mostK] <;> omega
theorem good_prog {l : List Rw} (hn : ∀ r ∈ l, okI r.n) (hc : cleanL l) : goodP (progL l) := by
  refine ⟨fun i hi => ?_, by rw [progL, List.length_map]; have := hc.1; omega⟩
  obtain ⟨r, hr, rfl⟩ := List.mem_map.1 hi
  unfold rowI
  rw [hc.2 r hr]
  exact ⟨may_ins _ _, insF_n _ _ _ (hn r hr)⟩

def textL (p : List Ins) : List UInt8 := p.flatMap fun i => lineS i ++ [10]
theorem lineS_len {i : Ins} (h : Good i) : (lineS i).length ≤ 200 := by have := lineR_len i; rw [lineR, if_pos h.1] at this; exact this
theorem text_len : ∀ (p : List Ins), (∀ i ∈ p, Good i) → (textL p).length ≤ 201 * p.length
  | [], _ => Nat.le_refl _
  | i :: p, h => by
    have h1 := lineS_len (h i List.mem_cons_self)
    have h2 := text_len p fun j hj => h j (List.mem_cons_of_mem _ hj)
    unfold textL at h2 ⊢
    rw [List.flatMap_cons]
    simp only [List.length_append, List.length_cons, List.length_nil]
    omega
theorem print_go : ∀ (p : List Ins) (acc : List UInt8), (∀ i ∈ p, Good i) → printGo p acc = (acc ++ textL p, true)
  | [], acc, _ => by simp [printGo, textL]
  | i :: p, acc, h => by
    have hi := h i List.mem_cons_self
    rw [printGo, if_pos hi.1, lineR, if_pos hi.1, print_go p _ fun j hj => h j (List.mem_cons_of_mem _ hj)]
    simp [textL]
theorem print_good {p : List Ins} (h : goodP p) : printR p = (textL p, true) := by
  rw [printR, print_go p [] h.1]
  simp
theorem textOf_cons {i : Ins} (h : Good i) {p : List Ins} {s : List UInt8} (hs : textOf p s) : textOf (i :: p) (lineS i ++ 10 :: s) := by
  unfold textOf at hs ⊢
  rw [split_app 10 _ _ (line_no h), List.filter_cons_of_pos (by simpa using line_ne h), hs]
  rfl
theorem textOf_gap {p : List Ins} {s : List UInt8} (hs : textOf p s) : textOf p (10 :: s) := by
  unfold textOf at hs ⊢
  have e : splitL 10 (10 :: s) = [] :: splitL 10 s := by rw [splitL, if_pos rfl]
  rw [e, List.filter_cons_of_neg (by simp), hs]
theorem text_of : ∀ (p : List Ins), (∀ i ∈ p, Good i) → textOf p (textL p)
  | [], _ => rfl
  | i :: p, h => by
    have := textOf_cons (h i List.mem_cons_self) (text_of p fun j hj => h j (List.mem_cons_of_mem _ hj))
    unfold textL at this ⊢
    rw [List.flatMap_cons, List.append_assoc]
    exact this
theorem gap_line : ∀ (w : List UInt8), (10 : UInt8) ∉ w → w.flatMap gapB = w
  | [], _ => rfl
  | c :: w, h => by
    rw [List.flatMap_cons, gap_line w fun e => h (List.mem_cons_of_mem _ e)]
    have : ¬ c = 10 := fun e => h (by rw [e]; exact List.mem_cons_self)
    rw [gapB, if_neg this]
    rfl
theorem text_gaps : ∀ (p : List Ins), (∀ i ∈ p, Good i) → textOf p ((textL p).flatMap gapB)
  | [], _ => rfl
  | i :: p, h => by
    have hi := h i List.mem_cons_self
    have := textOf_cons hi (textOf_gap (text_gaps p fun j hj => h j (List.mem_cons_of_mem _ hj)))
    unfold textL at this ⊢
    rw [List.flatMap_cons, List.flatMap_append, List.flatMap_append, gap_line _ (line_no hi), List.append_assoc]
    exact this
theorem gap_len : ∀ (s : List UInt8), (s.flatMap gapB).length ≤ 2 * s.length
  | [] => Nat.le_refl _
  | c :: s => by
    have := gap_len s
    have h2 : (gapB c).length ≤ 2 := by unfold gapB; split <;> simp
    rw [List.flatMap_cons, List.length_append, List.length_cons]
    omega
theorem pa_pre {p : List Ins} (hg : goodP p) (h : ∀ i ∈ p, Good i) (hl : p.length ≤ 40) : (paD p).pre (textL p, ()) :=
  ⟨hg, by have := text_len p h; show (textL p).length ≤ 20000; omega, text_of p h⟩
theorem pa_gap {p : List Ins} (hg : goodP p) (h : ∀ i ∈ p, Good i) (hl : p.length ≤ 40) : (paD p).pre (gapS (textL p), ()) :=
  ⟨hg, by
    have := text_len p h
    have := gap_len (textL p)
    show (gapS (textL p)).length ≤ 20000
    unfold gapS
    rw [List.length_cons]
    omega, textOf_gap (text_gaps p h)⟩
end Go.Proofs.YtbbbpnaghipfmaaDoor

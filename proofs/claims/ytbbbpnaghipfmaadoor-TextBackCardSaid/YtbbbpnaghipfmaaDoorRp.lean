/- Lines are cut into words, texts into lines: plain. -/
import Derived.Test.YtbbbpnaghipfmaaDoorNo
namespace Go.Proofs.YtbbbpnaghipfmaaDoor
open Go.RowKit Go.Am Go.Sy
set_option linter.unusedVariables false
set_option linter.unusedSimpArgs false

theorem split_app (c : UInt8) : ∀ (w r : List UInt8), c ∉ w → splitL c (w ++ c :: r) = w :: splitL c r
  | [], r, _ => by rw [List.nil_append, splitL, if_pos rfl]
  | x :: w, r, h => by
    have h1 : ¬ x = c := fun e => h (by rw [e]; exact List.mem_cons_self)
    have h2 : c ∉ w := fun e => h (List.mem_cons_of_mem _ e)
    rw [List.cons_append, splitL, if_neg h1, split_app c w r h2]
theorem split_one (c : UInt8) : ∀ (w : List UInt8), c ∉ w → splitL c w = [w]
  | [], _ => rfl
  | x :: w, h => by
    have h1 : ¬ x = c := fun e => h (by rw [e]; exact List.mem_cons_self)
    have h2 : c ∉ w := fun e => h (List.mem_cons_of_mem _ e)
    rw [splitL, if_neg h1, split_one c w h2]
theorem split_join {α : Type} (c : UInt8) (d : α → List UInt8) (hd : ∀ x, c ∉ d x) : ∀ (l : List α) (w : List UInt8), c ∉ w → splitL c (w ++ l.flatMap fun x => c :: d x) = w :: l.map d
  | [], w, h => by rw [List.flatMap_nil, List.append_nil, split_one c w h]; rfl
  | x :: l, w, h => by
    rw [List.flatMap_cons, List.cons_append, split_app c w _ h, split_join c d hd l (d x) (hd x)]
    rfl

/-- Which of its fields stand behind an instruction's word. -/
def fieldsOf (op : Int) : List UInt8 :=
  if op = 1 then [97, 110] else if 2 ≤ op ∧ op ≤ 7 then [97, 98, 99] else if op = 8 ∨ op = 9 then [97, 98, 110] else if op = 10 ∨ op = 11 then [98, 110]
  else if op = 12 ∨ op = 13 ∨ op = 15 ∨ op = 16 ∨ op = 17 ∨ op = 18 ∨ op = 21 then [97] else []
def fieldV (i : Ins) (c : UInt8) : Int := if c = 97 then i.a else if c = 98 then i.b else if c = 99 then i.c else i.n
def wordsOf (i : Ins) : List (List UInt8) := wordB i.op i.b :: (fieldsOf i.op).map fun c => decS (fieldV i c)
theorem op_cases {op : Int} (h1 : 1 ≤ op) (h2 : op ≤ 22) : op = 1 ∨ op = 2 ∨ op = 3 ∨ op = 4 ∨ op = 5 ∨ op = 6 ∨ op = 7 ∨ op = 8 ∨ op = 9 ∨ op = 10 ∨ op = 11 ∨ op = 12 ∨ op = 13 ∨ op = 14 ∨ op = 15 ∨ op = 16 ∨ op = 17 ∨ op = 18 ∨ op = 19 ∨ op = 20 ∨ op = 21 ∨ op = 22 := by omega
theorem line_join (i : Ins) (h1 : 1 ≤ i.op) (h2 : i.op ≤ 22) : lineS i = wordB i.op i.b ++ (fieldsOf i.op).flatMap fun c => 32 :: decS (fieldV i c) := by
  obtain ⟨op, a, b, c, n⟩ := i
  simp only at h1 h2
  unfold lineS
  rcases op_cases h1 h2 with rfl | rfl | rfl | rfl | rfl | rfl | rfl | rfl | rfl | rfl | rfl | rfl | rfl | rfl | rfl | rfl | rfl | rfl | rfl | rfl | rfl | rfl <;> simp [fieldsOf, fieldV, shA, shB, shC, shN]
theorem dec_bytes {n : Int} (h : okI n) (c : UInt8) (hc : c.toNat < 45) : c ∉ decS n := by
  rw [decS_is h.1 h.2]
  unfold Lib.itoa
  have hall := fun u : Nat => dd_all u u (Nat.le_refl _)
  split
  · intro hm
    rcases List.mem_cons.1 hm with rfl | hm
    · have : (45 : UInt8).toNat = 45 := rfl
      omega
    · have := hall _ c hm
      omega
  · intro hm
    have := hall _ c hm
    omega
theorem word_bytes (op b : Int) (h1 : 1 ≤ op) (h2 : op ≤ 22) (c : UInt8) (hc : c.toNat < 45) : c ∉ wordB op b := by
  have hall : (wordsL.all fun w => w.all fun c => decide (45 ≤ c.toNat)) = true := by kernel_rfl
  unfold wordB
  split
  · intro hm
    have h : ([114, 101, 97, 100] : List UInt8).all (fun c => decide (45 ≤ c.toNat)) = true := by kernel_rfl
    have := of_decide_eq_true (List.all_eq_true.1 h c hm)
    omega
  · obtain ⟨n, rfl⟩ := Int.eq_ofNat_of_zero_le (show 0 ≤ op by omega)
    have hlt : n < wordsL.length := by show n < 23; omega
    rw [at3_get hlt]
    intro hm
    have := of_decide_eq_true (List.all_eq_true.1 (List.all_eq_true.1 hall _ (List.getElem_mem hlt)) c hm)
    omega
/-- An instruction that may be, whose number is one. -/
def Good (i : Ins) : Prop := mayB i = true ∧ okI i.n
theorem Good.field {i : Ins} (h : Good i) (c : UInt8) : okI (fieldV i c) := by
  obtain ⟨_, _, ha, hb, hc⟩ := may_parts h.1
  unfold fieldV
  repeat' split
  · exact ha
  · exact hb
  · exact hc
  · exact h.2
theorem split_line {i : Ins} (h : Good i) : splitL 32 (lineS i) = wordsOf i := by
  obtain ⟨h1, h2, _⟩ := may_parts h.1
  rw [line_join i h1 h2, split_join 32 (fun c => decS (fieldV i c)) (fun c => dec_bytes (h.field c) 32 (by decide)) _ _ (word_bytes _ _ h1 h2 32 (by decide))]
  rfl
theorem line_no {i : Ins} (h : Good i) : (10 : UInt8) ∉ lineS i := by
  obtain ⟨h1, h2, _⟩ := may_parts h.1
  rw [line_join i h1 h2]
  intro hm
  rcases List.mem_append.1 hm with hm | hm
  · exact word_bytes _ _ h1 h2 10 (by decide) hm
  · obtain ⟨c, _, hm⟩ := List.mem_flatMap.1 hm
    rcases List.mem_cons.1 hm with hm | hm
    · exact absurd hm (by decide)
    · exact dec_bytes (h.field c) 10 (by decide) hm
theorem word_ne {op : Int} (b : Int) (h1 : 1 ≤ op) (h2 : op ≤ 22) : wordB op b ≠ [] := by
  have hall : ((wordsL.drop 1).all fun w => w != []) = true := by kernel_rfl
  unfold wordB
  split
  · simp
  · rcases op_cases h1 h2 with rfl | rfl | rfl | rfl | rfl | rfl | rfl | rfl | rfl | rfl | rfl | rfl | rfl | rfl | rfl | rfl | rfl | rfl | rfl | rfl | rfl | rfl <;> exact (by kernel_rfl : (at3 wordsL _ == []) = false) |> ne_of_beq_false
theorem line_ne {i : Ins} (h : Good i) : lineS i ≠ [] := by
  obtain ⟨h1, h2, _⟩ := may_parts h.1
  rw [line_join i h1 h2]
  exact fun e => word_ne i.b h1 h2 (List.append_eq_nil_iff.1 e).1
end Go.Proofs.YtbbbpnaghipfmaaDoor

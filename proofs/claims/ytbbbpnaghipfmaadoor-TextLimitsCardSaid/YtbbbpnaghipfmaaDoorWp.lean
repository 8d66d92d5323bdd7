/- Where a bad line is told: plain. -/
import Derived.Test.YtbbbpnaghipfmaaDoorWh
namespace Go.Proofs.YtbbbpnaghipfmaaDoor
open Go.RowKit Go.Am Go.Sy
set_option linter.unusedVariables false

theorem splitL_app (c : UInt8) (y : List UInt8) : ∀ x : List UInt8, (∀ b ∈ x, b ≠ c) → splitL c (x ++ c :: y) = x :: splitL c y
  | [], _ => by simp only [List.nil_append, splitL, if_true]
  | b :: x, h => by
    have ih := splitL_app c y x fun d hd => h d (List.mem_cons_of_mem _ hd)
    rw [List.cons_append, splitL, if_neg (h b (by simp)), ih]
theorem splitL_blank (y : List UInt8) : ∀ n : Nat, splitL 10 (List.replicate n 10 ++ y) = List.replicate n [] ++ splitL 10 y
  | 0 => rfl
  | n + 1 => by
    rw [List.replicate_succ, List.cons_append, splitL, if_pos rfl, splitL_blank y n]
    rfl
def goodLine (i : Nat) : List UInt8 := [108, 111, 103, 32] ++ decS (i % 4 : Nat)
def goodLines : Nat → List (List UInt8)
  | 0 => []
  | i + 1 => goodLines i ++ [goodLine i]
theorem goodLine_is (i : Nat) : goodLine i ∈ lines ∧ goodLine i ≠ [] ∧ okS (goodLine i) = true ∧ ∀ b ∈ goodLine i, b ≠ 10 := by
  unfold goodLine
  obtain h | h | h | h : i % 4 = 0 ∨ i % 4 = 1 ∨ i % 4 = 2 ∨ i % 4 = 3 := by omega
  all_goals rw [h]; exact ⟨by decide, by decide, by decide, by decide⟩
theorem goodLines_is : ∀ g, ∀ l ∈ goodLines g, l ∈ lines ∧ l ≠ [] ∧ okS l = true
  | 0, l, h => by cases h
  | g + 1, l, h => by
    simp only [goodLines, List.mem_append, List.mem_singleton] at h
    rcases h with h | rfl
    · exact goodLines_is g l h
    · have := goodLine_is g
      exact ⟨this.1, this.2.1, this.2.2.1⟩
theorem goodLines_length : ∀ g, (goodLines g).length = g
  | 0 => rfl
  | g + 1 => by simp [goodLines, goodLines_length g]
theorem goodS_length : ∀ g, (goodS g).length = 6 * g
  | 0 => rfl
  | g + 1 => by simp [goodS, goodS_length g, decS]; omega
theorem splitL_good (y : List UInt8) : ∀ g, splitL 10 (goodS g ++ y) = goodLines g ++ splitL 10 y
  | 0 => rfl
  | g + 1 => by
    have h := splitL_app 10 y (goodLine g) (goodLine_is g).2.2.2
    have e : goodS (g + 1) ++ y = goodS g ++ (goodLine g ++ 10 :: y) := by simp [goodS, goodLine]
    rw [e, splitL_good _ g, h]
    simp [goodLines]
theorem parseL_blank (ls : List (List UInt8)) (q : List Ins) : ∀ n i, parseL (List.replicate n [] ++ ls) i q = parseL ls (i + n) q
  | 0, i => rfl
  | n + 1, i => by
    rw [List.replicate_succ, List.cons_append, parseL, if_pos rfl, parseL_blank ls q n (i + 1)]
    congr 1
    omega
theorem parseL_good (ls : List (List UInt8)) : ∀ (xs : List (List UInt8)) (i : Nat) (q : List Ins), (∀ l ∈ xs, l ≠ [] ∧ okS l = true) → q.length + xs.length ≤ 48 → parseL (xs ++ ls) i q = parseL ls (i + xs.length) (q ++ xs.map insS)
  | [], i, q, _, _ => by simp
  | x :: xs, i, q, h, hl => by
    have hx := h x (by simp)
    simp only [List.length_cons] at hl
    rw [List.cons_append, parseL, if_neg hx.1, if_neg (by omega), if_pos hx.2, parseL_good ls xs (i + 1) _ (fun l hm => h l (List.mem_cons_of_mem _ hm)) (by simp; omega)]
    simp only [List.map_cons, List.length_cons, List.append_assoc, List.cons_append, List.nil_append]
    congr 1
    omega
theorem bads_is : ∀ w ∈ bads, w ∈ lines ∧ w ≠ [] ∧ okS w = false ∧ (∀ b ∈ w, b ≠ 10) ∧ w.length ≤ 30 := by decide
def tailS : List UInt8 := [10, 108, 101, 97, 118, 101, 10]
theorem where_split (n g : Nat) (w : List UInt8) (hw : w ∈ bads) : splitL 10 (headS n g ++ (w ++ tailS)) = List.replicate n [] ++ (goodLines g ++ (w :: [[108, 101, 97, 118, 101], []])) := by
  have hb := bads_is w hw
  rw [headS, List.append_assoc, splitL_blank, splitL_good, tailS, splitL_app 10 _ w hb.2.2.2.1]
  rfl
theorem where_len (n g : Nat) (w : List UInt8) (hw : w ∈ bads) (hn : n < 40) (hg : g < 40) : (headS n g ++ (w ++ tailS)).length ≤ 20000 := by
  have := (bads_is w hw).2.2.2.2
  simp only [headS, tailS, List.length_append, List.length_replicate, goodS_length, List.length_cons, List.length_nil]
  omega
theorem where_pre (n g : Nat) (w : List UInt8) (hw : w ∈ bads) : ∀ l ∈ splitL 10 (headS n g ++ (w ++ tailS)), l ≠ [] → l ∈ lines := by
  rw [where_split n g w hw]
  intro l hl he
  simp only [List.mem_append, List.mem_cons, List.not_mem_nil, or_false] at hl
  rcases hl with h | h | rfl | rfl | rfl
  · exact absurd (List.eq_of_mem_replicate h) he
  · exact (goodLines_is g l h).1
  · exact (bads_is l hw).1
  · decide
  · exact absurd rfl he
theorem where_is (n g : Nat) (w : List UInt8) (hw : w ∈ bads) (hn : n < 40) (hg : g < 40) : parseS (headS n g ++ (w ++ tailS)) = ([], ch 3 [⟨-1, (n : Int) + g + 1⟩]) := by
  have hb := bads_is w hw
  unfold parseS
  rw [if_neg (by have := where_len n g w hw hn hg; omega), where_split n g w hw, parseL_blank, parseL_good _ _ _ _ (fun l hl => (goodLines_is g l hl).2) (by rw [goodLines_length]; simp; omega)]
  rw [parseL, if_neg hb.2.1, if_neg (by simp [goodLines_length]; omega), if_neg (by rw [hb.2.2.1]; decide), goodLines_length]
  congr 3
  simp
end Go.Proofs.YtbbbpnaghipfmaaDoor

/- TextLimits: its run. -/
import Derived.Test.YtbbbpnaghipfmaaDoorLi
import Derived.Test.YtbbbpnaghipfmaaDoorWp
namespace Go.Proofs.YtbbbpnaghipfmaaDoor
open Go.RowKit Go.Am Go.Sy
set_option linter.unusedVariables false
set_option linter.unusedSimpArgs false

theorem li_e (n b : Int) : Go.Sy.Tree.holds (entryX F (lookC l3) 200 Tryd.f6 b6 ⟨liCuts b, .b true, []⟩ [.i .i64 n, .i .i64 b]) = ( ∃ (s : LiS), b = b ∧ IntKind.i64.wrap ((46 : Int) + IntKind.i64.wrap ((IntKind.u64.wrap
 n).tmod 5)) = (↑s.k : Int) ∧ [] = leaveS s.i ∧ (0 : Int) = (↑s.i : Int) ∧ (s.i ≤ s.k ∧ (46 : Nat) ≤ s.k ∧ s.k ≤ 50) ∧ True) := by kernel_rfl
theorem li_c4 (b : Int) (i k : Nat) (l : List Ins) (e : AVal) : Go.Sy.Tree.holds (cutVC F (lookC l3) 200 Tryd.f6 b6 (liF b) 4 (liC4 b) ⟨i, k, l, e⟩) = ( (decide ((↑i : Int) < (↑k : Int)) = true → (↑((leaveS i).length +
 [(108 : UInt8), 101, 97, 118, 101, 10, (10 : UInt8)].length) : Int) ≤ 9223372036854775807 ∧ ∃ (s : LiS), b = b ∧ (↑k : Int) = (↑s.k : Int) ∧ leaveS i ++ [(108 : UInt8), 101, 97, 118, 101, 10, (10 : UInt8)] = leaveS s.i ∧
 IntKind.i64.wrap ((↑i : Int) + 1) = (↑s.i : Int) ∧ (s.i ≤ s.k ∧ (46 : Nat) ≤ s.k ∧ s.k ≤ 50) ∧ (30000 : Nat) + (s.k - s.i) < 30000 + (k - i) ∧ True) ∧ (decide ((↑i : Int) < (↑k : Int)) = false → parseD.pre (leaveS i, ())
 ∧ ∃ (s : LiS), b = b ∧ (↑k : Int) = (↑s.k : Int) ∧ (parseS (leaveS i)).fst = s.l ∧ (parseS (leaveS i)).snd = s.e ∧ ((46 : Nat) ≤ s.k ∧ s.k ≤ 50 ∧ s.e = liE s.k ∧ (s.k ≤ 48 → s.l.length = s.k)) ∧ (29000 : Nat) < 30000 +
 (k - i) ∧ True)) := by kernel_rfl
theorem li_c8a (b : Int) (i k : Nat) (l : List Ins) : Go.Sy.Tree.holds (cutVC F (lookC l3) 200 Tryd.f6 b6 (liF b) 8 (liC8 b) ⟨i, k, l, .nili⟩) = ( (decide ((↑k : Int) ≤ 48) = true → (((↑l.length : Int) != (↑k : Int)) =
 true → false = true ∧ True) ∧ (((↑l.length : Int) != (↑k : Int)) = false → (decide ((↑k : Int) > 48) = true → false = true ∧ True) ∧ (decide ((↑k : Int) > 48) = false → ((0 : Int) ≤ IntKind.i64.wrap ((19998 : Int) +
 IntKind.i64.wrap ((IntKind.u64.wrap b).tmod 5)) ∧ IntKind.i64.wrap ((19998 : Int) + IntKind.i64.wrap ((IntKind.u64.wrap b).tmod 5)) = IntKind.i64.wrap ((19998 : Int) + IntKind.i64.wrap ((IntKind.u64.wrap b).tmod 5)) ∧
 IntKind.i64.wrap ((19998 : Int) + IntKind.i64.wrap ((IntKind.u64.wrap b).tmod 5)) * 1 ≤ 281474976710656 ∧ IntKind.i64.wrap ((19998 : Int) + IntKind.i64.wrap ((IntKind.u64.wrap b).tmod 5)) ≤ 9223372036854775807) ∧ ∃ (s :
 LiS), List.replicate (IntKind.i64.wrap ((19998 : Int) + IntKind.i64.wrap ((IntKind.u64.wrap b).tmod 5))).toNat (0 : Int) = List.replicate s.i (10 : Int) ++ List.replicate (s.k - s.i) (0 : Int) ∧ (0 : Int) = (↑s.i : Int)
 ∧ (s.i ≤ s.k ∧ (19998 : Nat) ≤ s.k ∧ s.k ≤ 20002) ∧ (1 : Nat) + (s.k - s.i) < 29000 ∧ True))) ∧ (decide ((↑k : Int) ≤ 48) = false → (decide ((↑k : Int) > 48) = true → false = true ∧ True) ∧ (decide ((↑k : Int) > 48) =
 false → ((0 : Int) ≤ IntKind.i64.wrap ((19998 : Int) + IntKind.i64.wrap ((IntKind.u64.wrap b).tmod 5)) ∧ IntKind.i64.wrap ((19998 : Int) + IntKind.i64.wrap ((IntKind.u64.wrap b).tmod 5)) = IntKind.i64.wrap ((19998 : Int)
 + IntKind.i64.wrap ((IntKind.u64.wrap b).tmod 5)) ∧ IntKind.i64.wrap ((19998 : Int) + IntKind.i64.wrap ((IntKind.u64.wrap b).tmod 5)) * 1 ≤ 281474976710656 ∧ IntKind.i64.wrap ((19998 : Int) + IntKind.i64.wrap
 ((IntKind.u64.wrap b).tmod 5)) ≤ 9223372036854775807) ∧ ∃ (s : LiS), List.replicate (IntKind.i64.wrap ((19998 : Int) + IntKind.i64.wrap ((IntKind.u64.wrap b).tmod 5))).toNat (0 : Int) = List.replicate s.i (10 : Int) ++
 List.replicate (s.k - s.i) (0 : Int) ∧ (0 : Int) = (↑s.i : Int) ∧ (s.i ≤ s.k ∧ (19998 : Nat) ≤ s.k ∧ s.k ≤ 20002) ∧ (1 : Nat) + (s.k - s.i) < 29000 ∧ True))) := by kernel_rfl
theorem li_c8b (b : Int) (i k : Nat) (l : List Ins) : Go.Sy.Tree.holds (cutVC F (lookC l3) 200 Tryd.f6 b6 (liF b) 8 (liC8 b) ⟨i, k, l, ch 4 [⟨-1, 97⟩]⟩) = ( (true = true → (decide ((↑k : Int) ≤ 48) = true → false = true ∧
 True) ∧ (decide ((↑k : Int) ≤ 48) = false → (decide ((↑k : Int) > 48) = true → (false = true → false = true ∧ True) ∧ (false = false → (false = true → false = true ∧ True) ∧ (false = false → (false = true → false = true
 ∧ True) ∧ (false = false → (false = true → false = true ∧ True) ∧ (false = false → (false = true → false = true ∧ True) ∧ (false = false → (false = true → false = true ∧ True) ∧ (false = false → (false = true → ((0 :
 Int) ≤ IntKind.i64.wrap ((19998 : Int) + IntKind.i64.wrap ((IntKind.u64.wrap b).tmod 5)) ∧ IntKind.i64.wrap ((19998 : Int) + IntKind.i64.wrap ((IntKind.u64.wrap b).tmod 5)) = IntKind.i64.wrap ((19998 : Int) +
 IntKind.i64.wrap ((IntKind.u64.wrap b).tmod 5)) ∧ IntKind.i64.wrap ((19998 : Int) + IntKind.i64.wrap ((IntKind.u64.wrap b).tmod 5)) * 1 ≤ 281474976710656 ∧ IntKind.i64.wrap ((19998 : Int) + IntKind.i64.wrap
 ((IntKind.u64.wrap b).tmod 5)) ≤ 9223372036854775807) ∧ ∃ (s : LiS), List.replicate (IntKind.i64.wrap ((19998 : Int) + IntKind.i64.wrap ((IntKind.u64.wrap b).tmod 5))).toNat (0 : Int) = List.replicate s.i (10 : Int) ++
 List.replicate (s.k - s.i) (0 : Int) ∧ (0 : Int) = (↑s.i : Int) ∧ (s.i ≤ s.k ∧ (19998 : Nat) ≤ s.k ∧ s.k ≤ 20002) ∧ (1 : Nat) + (s.k - s.i) < 29000 ∧ True) ∧ (false = false → (true = true → ((0 : Int) ≤ IntKind.i64.wrap
 ((19998 : Int) + IntKind.i64.wrap ((IntKind.u64.wrap b).tmod 5)) ∧ IntKind.i64.wrap ((19998 : Int) + IntKind.i64.wrap ((IntKind.u64.wrap b).tmod 5)) = IntKind.i64.wrap ((19998 : Int) + IntKind.i64.wrap ((IntKind.u64.wrap
 b).tmod 5)) ∧ IntKind.i64.wrap ((19998 : Int) + IntKind.i64.wrap ((IntKind.u64.wrap b).tmod 5)) * 1 ≤ 281474976710656 ∧ IntKind.i64.wrap ((19998 : Int) + IntKind.i64.wrap ((IntKind.u64.wrap b).tmod 5)) ≤
 9223372036854775807) ∧ ∃ (s : LiS), List.replicate (IntKind.i64.wrap ((19998 : Int) + IntKind.i64.wrap ((IntKind.u64.wrap b).tmod 5))).toNat (0 : Int) = List.replicate s.i (10 : Int) ++ List.replicate (s.k - s.i) (0 :
 Int) ∧ (0 : Int) = (↑s.i : Int) ∧ (s.i ≤ s.k ∧ (19998 : Nat) ≤ s.k ∧ s.k ≤ 20002) ∧ (1 : Nat) + (s.k - s.i) < 29000 ∧ True) ∧ (true = false → (false = true → false = true ∧ True) ∧ (false = false → (false = true → false
 = true ∧ True) ∧ (false = false → (false = true → false = true ∧ True) ∧ (false = false → (false = true → false = true ∧ True) ∧ (false = false → (false = true → false = true ∧ True) ∧ (false = false → (false = true →
 false = true ∧ True) ∧ (false = false → (false = true → false = true ∧ True) ∧ (false = false → (false = true → false = true ∧ True) ∧ (false = false → (false = true → false = true ∧ True) ∧ (false = false → (false =
 true → false = true ∧ True) ∧ (false = false → Stuck "fuel"))))))))))))))))))) ∧ (decide ((↑k : Int) > 48) = false → ((0 : Int) ≤ IntKind.i64.wrap ((19998 : Int) + IntKind.i64.wrap ((IntKind.u64.wrap b).tmod 5)) ∧
 IntKind.i64.wrap ((19998 : Int) + IntKind.i64.wrap ((IntKind.u64.wrap b).tmod 5)) = IntKind.i64.wrap ((19998 : Int) + IntKind.i64.wrap ((IntKind.u64.wrap b).tmod 5)) ∧ IntKind.i64.wrap ((19998 : Int) + IntKind.i64.wrap
 ((IntKind.u64.wrap b).tmod 5)) * 1 ≤ 281474976710656 ∧ IntKind.i64.wrap ((19998 : Int) + IntKind.i64.wrap ((IntKind.u64.wrap b).tmod 5)) ≤ 9223372036854775807) ∧ ∃ (s : LiS), List.replicate (IntKind.i64.wrap ((19998 :
 Int) + IntKind.i64.wrap ((IntKind.u64.wrap b).tmod 5))).toNat (0 : Int) = List.replicate s.i (10 : Int) ++ List.replicate (s.k - s.i) (0 : Int) ∧ (0 : Int) = (↑s.i : Int) ∧ (s.i ≤ s.k ∧ (19998 : Nat) ≤ s.k ∧ s.k ≤ 20002)
 ∧ (1 : Nat) + (s.k - s.i) < 29000 ∧ True))) ∧ (true = false → (decide ((↑k : Int) ≤ 48) = true → false = true ∧ True) ∧ (decide ((↑k : Int) ≤ 48) = false → (decide ((↑k : Int) > 48) = true → (false = true → false = true
 ∧ True) ∧ (false = false → (false = true → false = true ∧ True) ∧ (false = false → (false = true → false = true ∧ True) ∧ (false = false → (false = true → false = true ∧ True) ∧ (false = false → (false = true → false =
 true ∧ True) ∧ (false = false → (false = true → false = true ∧ True) ∧ (false = false → (false = true → false = true ∧ True) ∧ (false = false → (true = true → false = true ∧ True) ∧ (true = false → (false = true → false
 = true ∧ True) ∧ (false = false → (false = true → false = true ∧ True) ∧ (false = false → (false = true → false = true ∧ True) ∧ (false = false → (false = true → false = true ∧ True) ∧ (false = false → (false = true →
 false = true ∧ True) ∧ (false = false → (false = true → false = true ∧ True) ∧ (false = false → (false = true → false = true ∧ True) ∧ (false = false → (false = true → false = true ∧ True) ∧ (false = false → (false =
 true → false = true ∧ True) ∧ (false = false → (false = true → false = true ∧ True) ∧ (false = false → Stuck "fuel"))))))))))))))))))) ∧ (decide ((↑k : Int) > 48) = false → ((0 : Int) ≤ IntKind.i64.wrap ((19998 : Int) +
 IntKind.i64.wrap ((IntKind.u64.wrap b).tmod 5)) ∧ IntKind.i64.wrap ((19998 : Int) + IntKind.i64.wrap ((IntKind.u64.wrap b).tmod 5)) = IntKind.i64.wrap ((19998 : Int) + IntKind.i64.wrap ((IntKind.u64.wrap b).tmod 5)) ∧
 IntKind.i64.wrap ((19998 : Int) + IntKind.i64.wrap ((IntKind.u64.wrap b).tmod 5)) * 1 ≤ 281474976710656 ∧ IntKind.i64.wrap ((19998 : Int) + IntKind.i64.wrap ((IntKind.u64.wrap b).tmod 5)) ≤ 9223372036854775807) ∧ ∃ (s :
 LiS), List.replicate (IntKind.i64.wrap ((19998 : Int) + IntKind.i64.wrap ((IntKind.u64.wrap b).tmod 5))).toNat (0 : Int) = List.replicate s.i (10 : Int) ++ List.replicate (s.k - s.i) (0 : Int) ∧ (0 : Int) = (↑s.i : Int)
 ∧ (s.i ≤ s.k ∧ (19998 : Nat) ≤ s.k ∧ s.k ≤ 20002) ∧ (1 : Nat) + (s.k - s.i) < 29000 ∧ True)))) := by kernel_rfl
theorem li_c13 (b : Int) (i k : Nat) (l : List Ins) (e : AVal) : Go.Sy.Tree.holds (cutVC F (lookC l3) 200 Tryd.f6 b6 (liF b) 13 liC13 ⟨i, k, l, e⟩) = ( (decide ((↑i : Int) < (↑(List.replicate i (10 : Int) ++
 List.replicate (k - i) (0 : Int)).length : Int)) = true → ((0 : Int) ≤ (↑i : Int) ∧ (↑i : Int) < (↑(List.replicate i (10 : Int) ++ List.replicate (k - i) (0 : Int)).length : Int)) ∧ ((0 : Int) ≤ (↑i : Int) ∧ (↑i : Int) <
 (↑(List.replicate i (10 : Int) ++ List.replicate (k - i) (0 : Int)).length : Int)) ∧ ∃ (s : LiS), (List.replicate i (10 : Int) ++ List.replicate (k - i) (0 : Int)).set (↑i : Int).toNat (10 : Int) = List.replicate s.i (10
 : Int) ++ List.replicate (s.k - s.i) (0 : Int) ∧ IntKind.i64.wrap ((↑i : Int) + 1) = (↑s.i : Int) ∧ (s.i ≤ s.k ∧ (19998 : Nat) ≤ s.k ∧ s.k ≤ 20002) ∧ (1 : Nat) + (s.k - s.i) < 1 + (k - i) ∧ True) ∧ (decide ((↑i : Int) <
 (↑(List.replicate i (10 : Int) ++ List.replicate (k - i) (0 : Int)).length : Int)) = false → (∀ (y : T (4 : Nat)), y ∈ List.replicate i (10 : Int) ++ List.replicate (k - i) (0 : Int) → ∃ (x : SV T), ∃ (m : Int), cod.enc
 (4 : Nat) y = [x] ∧ Sy.intOf x = some (IntKind.u8, m)) ∧ parseD.pre (List.map (byteR cod (4 : Nat)) (List.replicate i (10 : Int) ++ List.replicate (k - i) (0 : Int)), ()) ∧ ∃ (s : LiS), List.replicate i (10 : Int) ++
 List.replicate (k - i) (0 : Int) = List.replicate s.k (10 : Int) ∧ (parseS (List.map (byteR cod (4 : Nat)) (List.replicate i (10 : Int) ++ List.replicate (k - i) (0 : Int)))).fst = [] ∧ (parseS (List.map (byteR cod (4 :
 Nat)) (List.replicate i (10 : Int) ++ List.replicate (k - i) (0 : Int)))).snd = s.e ∧ ((19998 : Nat) ≤ s.k ∧ s.k ≤ 20002 ∧ s.e = loE s.k) ∧ (0 : Nat) < 1 + (k - i) ∧ True)) := by kernel_rfl
theorem li_c17a (b : Int) (i k : Nat) (l : List Ins) : Go.Sy.Tree.holds (cutVC F (lookC l3) 200 Tryd.f6 b6 (liF b) 17 liC17 ⟨i, k, l, .nili⟩) = ( (decide ((↑(List.replicate k (10 : Int)).length : Int) > 20000) = true →
 false = true ∧ True) ∧ (decide ((↑(List.replicate k (10 : Int)).length : Int) > 20000) = false → true = true ∧ True)) := by kernel_rfl
theorem li_c17b (b : Int) (i k : Nat) (l : List Ins) : Go.Sy.Tree.holds (cutVC F (lookC l3) 200 Tryd.f6 b6 (liF b) 17 liC17 ⟨i, k, l, ch 4 [⟨-1, 0⟩]⟩) = ( (true = true → (decide ((↑(List.replicate k (10 : Int)).length :
 Int) > 20000) = true → (false = true → false = true ∧ True) ∧ (false = false → (false = true → false = true ∧ True) ∧ (false = false → (false = true → false = true ∧ True) ∧ (false = false → (false = true → false = true
 ∧ True) ∧ (false = false → (false = true → false = true ∧ True) ∧ (false = false → (false = true → false = true ∧ True) ∧ (false = false → (false = true → true = true ∧ True) ∧ (false = false → (true = true → true = true
 ∧ True) ∧ (true = false → (false = true → false = true ∧ True) ∧ (false = false → (false = true → false = true ∧ True) ∧ (false = false → (false = true → false = true ∧ True) ∧ (false = false → (false = true → false =
 true ∧ True) ∧ (false = false → (false = true → false = true ∧ True) ∧ (false = false → (false = true → false = true ∧ True) ∧ (false = false → (false = true → false = true ∧ True) ∧ (false = false → (false = true →
 false = true ∧ True) ∧ (false = false → (false = true → false = true ∧ True) ∧ (false = false → (false = true → false = true ∧ True) ∧ (false = false → Stuck "fuel"))))))))))))))))))) ∧ (decide ((↑(List.replicate k (10 :
 Int)).length : Int) > 20000) = false → false = true ∧ True)) ∧ (true = false → (decide ((↑(List.replicate k (10 : Int)).length : Int) > 20000) = true → (false = true → false = true ∧ True) ∧ (false = false → (false =
 true → false = true ∧ True) ∧ (false = false → (false = true → false = true ∧ True) ∧ (false = false → (false = true → false = true ∧ True) ∧ (false = false → (false = true → false = true ∧ True) ∧ (false = false →
 (false = true → false = true ∧ True) ∧ (false = false → (false = true → true = true ∧ True) ∧ (false = false → (true = true → true = true ∧ True) ∧ (true = false → (false = true → false = true ∧ True) ∧ (false = false →
 (false = true → false = true ∧ True) ∧ (false = false → (false = true → false = true ∧ True) ∧ (false = false → (false = true → false = true ∧ True) ∧ (false = false → (false = true → false = true ∧ True) ∧ (false =
 false → (false = true → false = true ∧ True) ∧ (false = false → (false = true → false = true ∧ True) ∧ (false = false → (false = true → false = true ∧ True) ∧ (false = false → (false = true → false = true ∧ True) ∧
 (false = false → (false = true → false = true ∧ True) ∧ (false = false → Stuck "fuel"))))))))))))))))))) ∧ (decide ((↑(List.replicate k (10 : Int)).length : Int) > 20000) = false → false = true ∧ True))) := by kernel_rfl

/-! ### Plain -/
theorem five {k : Nat} (h1 : 46 ≤ k) (h2 : k ≤ 50) : k = 46 ∨ k = 47 ∨ k = 48 ∨ k = 49 ∨ k = 50 := by omega
def leaveIns : Ins := ⟨14, 0, 0, 0, 0⟩
theorem leave_parse {k : Nat} (h1 : 46 ≤ k) (h2 : k ≤ 50) : parseS (leaveS k) = (if k ≤ 48 then List.replicate k leaveIns else [], liE k) := by
  rcases five h1 h2 with rfl | rfl | rfl | rfl | rfl
  · kernel_rfl
  · kernel_rfl
  · kernel_rfl
  · kernel_rfl
  · kernel_rfl
theorem leave_all {k : Nat} (h1 : 46 ≤ k) (h2 : k ≤ 50) : ((splitL 10 (leaveS k)).all fun l => l == [] || lines.contains l) = true := by
  rcases five h1 h2 with rfl | rfl | rfl | rfl | rfl
  · kernel_rfl
  · kernel_rfl
  · kernel_rfl
  · kernel_rfl
  · kernel_rfl
theorem leaveS_length : ∀ k, (leaveS k).length = 7 * k
  | 0 => rfl
  | k + 1 => by simp [leaveS, leaveS_length k]; omega
theorem leave_pre {k : Nat} (h1 : 46 ≤ k) (h2 : k ≤ 50) : ∀ l ∈ splitL 10 (leaveS k), l ≠ [] → l ∈ lines := by
  intro l hl he
  have h := List.all_eq_true.1 (leave_all h1 h2) l hl
  simp only [Bool.or_eq_true, beq_iff_eq, List.contains_iff_mem] at h
  exact h.resolve_left he
theorem blank_split (m : Nat) : splitL 10 (List.replicate m 10) = List.replicate m [] ++ [[]] := by
  have h := splitL_blank [] m
  rw [List.append_nil] at h
  rw [h]
  rfl
theorem blank_parse (m : Nat) : parseS (List.replicate m 10) = ([], loE m) := by
  unfold parseS loE
  rw [List.length_replicate]
  by_cases h : 20000 < m
  · rw [if_pos h, if_neg (by omega)]
  · rw [if_neg h, if_pos (by omega), blank_split, parseL_blank]
    rfl
theorem blank_pre (m : Nat) : ∀ l ∈ splitL 10 (List.replicate m 10), l ≠ [] → l ∈ lines := by
  rw [blank_split]
  intro l hl he
  simp only [List.mem_append, List.mem_singleton] at hl
  rcases hl with h | h
  · exact absurd (List.eq_of_mem_replicate h) he
  · exact absurd h he
theorem rem5 (x : Int) : ∃ m : Nat, m < 5 ∧ IntKind.wrap .i64 ((IntKind.wrap .u64 x).tmod 5) = (m : Int) := by
  have h : IntKind.wrap .u64 x = x % 18446744073709551616 := by
    simp only [IntKind.wrap, IntKind.signed, IntKind.bits]
    simp
  rw [h, Int.tmod_eq_emod_of_nonneg (by omega)]
  refine ⟨(x % 18446744073709551616 % 5).toNat, by omega, ?_⟩
  rw [wrap64 (by omega) (by omega)]
  omega
theorem set_blank (i k : Nat) (h : i < k) : (List.replicate i (10 : Int) ++ List.replicate (k - i) (0 : Int)).set i 10 = List.replicate (i + 1) 10 ++ List.replicate (k - (i + 1)) 0 := by
  obtain ⟨j, hj⟩ : ∃ j, k - i = j + 1 := ⟨k - i - 1, by omega⟩
  have hj' : k - (i + 1) = j := by omega
  rw [hj, hj', List.replicate_succ, List.set_append_right _ _ (by simp)]
  simp [List.replicate_succ']

/-! ### The run -/
theorem l3Ok : CtrOk F.S (lookC l3) := lookC_ok fun p h => by
  simp only [l3, List.mem_cons, List.not_mem_nil, or_false] at h
  rcases h with rfl | rfl | rfl
  · exact tellOk
  · exact parseOk
  · exact asCtr_ok
theorem li_e_paid (n b : Int) : Paid (entryX F (lookC l3) 200 Tryd.f6 b6 ⟨liCuts b, .b true, []⟩ [.i .i64 n, .i .i64 b]) := by
  refine ⟨?_⟩
  rw [li_e]
  obtain ⟨m, hm, e⟩ := rem5 n
  rw [e, wrap64 (by omega) (by omega)]
  exact ⟨⟨0, 46 + m, [], .nili⟩, rfl, by simp, rfl, rfl, ⟨Nat.zero_le _, by simp, by simp only; omega⟩, trivial⟩
theorem li_c4_ok (b : Int) (x : LiS) (hI : x.i ≤ x.k ∧ 46 ≤ x.k ∧ x.k ≤ 50) : Go.Sy.Tree.holds (cutVC F (lookC l3) 200 Tryd.f6 b6 (liF b) 4 (liC4 b) x) := by
  obtain ⟨i, k, l, e⟩ := x
  have h1 : i ≤ k := hI.1
  have h2 : 46 ≤ k := hI.2.1
  have h3 : k ≤ 50 := hI.2.2
  rw [li_c4]
  refine ⟨fun h => ⟨?_, ⟨i + 1, k, l, e⟩, rfl, rfl, rfl, ?_, ⟨?_, h2, h3⟩, ?_, trivial⟩, fun h => ?_⟩
  · simp only [leaveS_length, List.length_cons, List.length_nil]; omega
  · rw [wrap64 (by omega) (by omega)]; rfl
  · simp only [decide_eq_true_eq] at h; show i + 1 ≤ k; omega
  · simp only [decide_eq_true_eq] at h; show 30000 + (k - (i + 1)) < 30000 + (k - i); omega
  · simp only [decide_eq_false_iff_not] at h
    obtain rfl : i = k := by omega
    refine ⟨⟨?_, fun _ => leave_pre h2 h3⟩, ⟨0, i, if i ≤ 48 then List.replicate i leaveIns else [], liE i⟩, rfl, rfl, by rw [leave_parse h2 h3], by rw [leave_parse h2 h3], ⟨h2, h3, rfl, fun h => ?_⟩, by omega, trivial⟩
    · show (leaveS i).length < 4294967281
      rw [leaveS_length]; omega
    · show (if i ≤ 48 then List.replicate i leaveIns else []).length = i
      rw [if_pos h, List.length_replicate]
theorem li_tail (b : Int) :
    ((0 : Int) ≤ IntKind.i64.wrap (19998 + IntKind.i64.wrap ((IntKind.u64.wrap b).tmod 5)) ∧ IntKind.i64.wrap (19998 + IntKind.i64.wrap ((IntKind.u64.wrap b).tmod 5)) = IntKind.i64.wrap (19998 + IntKind.i64.wrap ((IntKind.u64.wrap b).tmod 5)) ∧
      IntKind.i64.wrap (19998 + IntKind.i64.wrap ((IntKind.u64.wrap b).tmod 5)) * 1 ≤ 281474976710656 ∧ IntKind.i64.wrap (19998 + IntKind.i64.wrap ((IntKind.u64.wrap b).tmod 5)) ≤ 9223372036854775807) ∧
    ∃ s : LiS, List.replicate (IntKind.i64.wrap (19998 + IntKind.i64.wrap ((IntKind.u64.wrap b).tmod 5))).toNat (0 : Int) = List.replicate s.i (10 : Int) ++ List.replicate (s.k - s.i) (0 : Int) ∧
      (0 : Int) = (s.i : Int) ∧ (s.i ≤ s.k ∧ 19998 ≤ s.k ∧ s.k ≤ 20002) ∧ 1 + (s.k - s.i) < 29000 ∧ True := by
  obtain ⟨m, hm, e⟩ := rem5 b
  rw [e, wrap64 (by omega) (by omega)]
  refine ⟨⟨by omega, rfl, by omega, by omega⟩, ⟨0, 19998 + m, [], .nili⟩, ?_, rfl, ⟨Nat.zero_le _, Nat.le_add_right _ _, by simp only; omega⟩, by simp only; omega, trivial⟩
  show List.replicate _ (0 : Int) = List.replicate (19998 + m) (0 : Int)
  congr 1
theorem li_c8_ok (b : Int) (x : LiS) (hI : 46 ≤ x.k ∧ x.k ≤ 50 ∧ x.e = liE x.k ∧ (x.k ≤ 48 → x.l.length = x.k)) : Paid (cutVC F (lookC l3) 200 Tryd.f6 b6 (liF b) 8 (liC8 b) x) := by
  obtain ⟨i, k, l, e⟩ := x
  have h2 : 46 ≤ k := hI.1
  have h3 : k ≤ 50 := hI.2.1
  have h4 : e = liE k := hI.2.2.1
  have h5 : k ≤ 48 → l.length = k := hI.2.2.2
  clear hI
  have ht := li_tail b
  by_cases hk : k ≤ 48
  · unfold liE at h4
    rw [if_pos hk] at h4
    subst h4
    refine ⟨?_⟩
    rw [li_c8a, h5 hk]
    refine ⟨fun h => ⟨fun h => by simp at h, fun _ => ⟨fun h => by simp only [gt_iff_lt, decide_eq_true_eq] at h; omega, fun _ => ht⟩⟩, fun h => ?_⟩
    simp only [decide_eq_false_iff_not] at h
    omega
  · unfold liE at h4
    rw [if_neg hk] at h4
    subst h4
    refine ⟨?_⟩
    rw [li_c8b]
    refine ⟨fun _ => ⟨fun h => by simp only [decide_eq_true_eq] at h; omega, fun _ => ⟨fun _ => ⟨nofun, fun _ => ⟨nofun, fun _ => ⟨nofun, fun _ => ⟨nofun, fun _ => ⟨nofun, fun _ => ⟨nofun, fun _ => ⟨nofun, fun _ => ⟨fun _ => ht, nofun⟩⟩⟩⟩⟩⟩⟩⟩, fun _ => ht⟩⟩, nofun⟩
theorem li_end (i : Nat) (h2 : 19998 ≤ i) (h3 : i ≤ 20002) (G : List UInt8) (hG : G = List.replicate i 10) : parseD.pre (G, ()) ∧ ∃ s : LiS, List.replicate i (10 : Int) = List.replicate s.k (10 : Int) ∧ (parseS G).fst = [] ∧ (parseS G).snd = s.e ∧ (19998 ≤ s.k ∧ s.k ≤ 20002 ∧ s.e = loE s.k) ∧ 0 < 1 + (i - i) ∧ True := by
  subst hG
  rw [blank_parse]
  refine ⟨⟨?_, fun _ => blank_pre i⟩, ⟨0, i, [], loE i⟩, rfl, rfl, rfl, ⟨h2, h3, rfl⟩, by omega, trivial⟩
  show (List.replicate i (10 : UInt8)).length < 4294967281
  rw [List.length_replicate]
  omega
theorem li_c13_ok (b : Int) (x : LiS) (hI : x.i ≤ x.k ∧ 19998 ≤ x.k ∧ x.k ≤ 20002) : Go.Sy.Tree.holds (cutVC F (lookC l3) 200 Tryd.f6 b6 (liF b) 13 liC13 x) := by
  obtain ⟨i, k, l, e⟩ := x
  have h1 : i ≤ k := hI.1
  have h2 : 19998 ≤ k := hI.2.1
  have h3 : k ≤ 20002 := hI.2.2
  clear hI
  rw [li_c13]
  have hl : (List.replicate i (10 : Int) ++ List.replicate (k - i) (0 : Int)).length = k := by simp; omega
  rw [hl]
  refine ⟨fun h => ⟨⟨by omega, by simpa using h⟩, ⟨by omega, by simpa using h⟩, ⟨i + 1, k, l, e⟩, ?_, ?_, ⟨?_, h2, h3⟩, ?_, trivial⟩, fun h => ?_⟩
  · simp only [decide_eq_true_eq] at h
    exact set_blank i k (by omega)
  · rw [wrap64 (by omega) (by omega)]; rfl
  · simp only [decide_eq_true_eq] at h; show i + 1 ≤ k; omega
  · simp only [decide_eq_true_eq] at h; show 1 + (k - (i + 1)) < 1 + (k - i); omega
  · simp only [decide_eq_false_iff_not] at h
    obtain rfl : i = k := by omega
    have e1 : List.replicate i (10 : Int) ++ List.replicate (i - i) (0 : Int) = List.replicate i 10 := by simp
    rw [e1]
    exact ⟨fun y _ => ⟨_, y, rfl, rfl⟩, li_end i h2 h3 _ ((List.map_replicate (f := byteR cod 4) (a := (10 : Int)) (n := i)).trans rfl)⟩
theorem li_c17_ok (b : Int) (x : LiS) (hI : 19998 ≤ x.k ∧ x.k ≤ 20002 ∧ x.e = loE x.k) : Paid (cutVC F (lookC l3) 200 Tryd.f6 b6 (liF b) 17 liC17 x) := by
  obtain ⟨i, k, l, e⟩ := x
  have h2 : 19998 ≤ k := hI.1
  have h3 : k ≤ 20002 := hI.2.1
  have h4 : e = loE k := hI.2.2
  clear hI
  by_cases hk : k ≤ 20000
  · unfold loE at h4
    rw [if_pos hk] at h4
    subst h4
    refine ⟨?_⟩
    rw [li_c17a]
    simp only [List.length_replicate]
    refine ⟨fun h => ?_, fun h => ?_⟩
    · simp only [gt_iff_lt, decide_eq_true_eq] at h; omega
    · simp
  · unfold loE at h4
    rw [if_neg hk] at h4
    subst h4
    refine ⟨?_⟩
    rw [li_c17b]
    simp only [List.length_replicate]
    have hd : decide ((k : Int) > 20000) = true := by simp only [gt_iff_lt, decide_eq_true_eq]; omega
    rw [hd]
    simp
set_option maxRecDepth 10000 in
theorem li_cuts_ok (b : Int) : ∀ p, p ∈ liCuts b → ∀ s, p.2.I s → Paid (cutVC F (lookC l3) 200 Tryd.f6 b6 ⟨liCuts b, .b true, []⟩ p.1 p.2 s) := by
  intro p hm s hI
  simp only [liCuts, List.mem_cons, List.not_mem_nil, or_false] at hm
  rcases hm with rfl | rfl | rfl | rfl
  · exact ⟨li_c4_ok b s hI⟩
  · exact li_c8_ok b s hI
  · exact ⟨li_c13_ok b s hI⟩
  · exact li_c17_ok b s hI
set_option maxRecDepth 10000 in
theorem limits_run (n b : Int) {av : List AVal} (hA : Ers (C := cod) (away []) [.i .i64 n, .i .i64 b] av) : ∃ n H', runA F.S n 0 6 av [] = some (.bool true, H') :=
  law_paid (F := F) (fn := Tryd.f6) (body := b6) (args := [.i .i64 n, .i .i64 b]) codOk noExt hookLow l3Ok Tryd.func6 rfl (by kernel_rfl) (by kernel_rfl) 200 (liCuts b) (show 2 ≤ Tryd.f6.ntmps by decide) (show Tryd.f6.ntmps ≤ 512 by decide) (by kernel_rfl)
    (li_e_paid n b) (li_cuts_ok b) hA
end Go.Proofs.YtbbbpnaghipfmaaDoor

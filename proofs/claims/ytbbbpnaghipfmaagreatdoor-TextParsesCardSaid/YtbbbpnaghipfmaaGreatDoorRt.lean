/- The document's own words of a line, and numbers: the contracts are paid. -/
import Derived.Test.YtbbbpnaghipfmaaGreatDoorRs
namespace Go.Proofs.YtbbbpnaghipfmaaGreatDoor
open Go.RowKit Go.Am Go.Sy
set_option linter.unusedVariables false
set_option linter.unusedSimpArgs false

theorem sp_e (s : List UInt8) : Go.Sy.Tree.holds (entryX F (lookC []) 300 Tryz.f32 b32 (spF s) [.s s]) = ( ∃ (s_1 : SpS), s = s ∧ [] = s_1.q ∧ (0 : Int) = (↑s_1.f : Int) ∧ (0 : Int) = (↑s_1.k : Int) ∧ spI s s_1 ∧ True) :=
 by kernel_rfl
theorem sp_4 (s : List UInt8) (k f : Nat) (q : List (List UInt8)) : Go.Sy.Tree.holds (cutVC F (lookC []) 300 Tryz.f32 b32 (spF s) 4 (spC s) ⟨k, f, q⟩) = ( (decide ((↑k : Int) ≤ (↑s.length : Int)) = true → (((↑k : Int) ==
 (↑s.length : Int)) = true → (((↑k : Int) == (↑f : Int)) = true → [] = wordsR s ∧ True) ∧ (((↑k : Int) == (↑f : Int)) = false → ((0 : Int) ≤ (↑f : Int) ∧ (↑f : Int) ≤ (↑k : Int) ∧ (↑k : Int) ≤ (↑s.length : Int)) ∧
 (q.length + [List.take ((↑k : Int).toNat - (↑f : Int).toNat) (List.drop (↑f : Int).toNat s)].length) * 16 ≤ 140737488355328 ∧ ∃ (s_1 : SpS), s = s ∧ q ++ [List.take ((↑k : Int).toNat - (↑f : Int).toNat) (List.drop (↑f :
 Int).toNat s)] = s_1.q ∧ IntKind.i64.wrap ((↑k : Int) + 1) = (↑s_1.f : Int) ∧ IntKind.i64.wrap ((↑k : Int) + 1) = (↑s_1.k : Int) ∧ spI s s_1 ∧ s.length + 1 - s_1.k < s.length + 1 - k ∧ True)) ∧ (((↑k : Int) == (↑s.length
 : Int)) = false → ((0 : Int) ≤ (↑k : Int) ∧ (↑k : Int) < (↑s.length : Int)) ∧ (((↑(s.getD (↑k : Int).toNat (0 : UInt8)).toNat : Int) == 32) = true → (((↑k : Int) == (↑f : Int)) = true → [] = wordsR s ∧ True) ∧ (((↑k :
 Int) == (↑f : Int)) = false → ((0 : Int) ≤ (↑f : Int) ∧ (↑f : Int) ≤ (↑k : Int) ∧ (↑k : Int) ≤ (↑s.length : Int)) ∧ (q.length + [List.take ((↑k : Int).toNat - (↑f : Int).toNat) (List.drop (↑f : Int).toNat s)].length) *
 16 ≤ 140737488355328 ∧ ∃ (s_1 : SpS), s = s ∧ q ++ [List.take ((↑k : Int).toNat - (↑f : Int).toNat) (List.drop (↑f : Int).toNat s)] = s_1.q ∧ IntKind.i64.wrap ((↑k : Int) + 1) = (↑s_1.f : Int) ∧ IntKind.i64.wrap ((↑k :
 Int) + 1) = (↑s_1.k : Int) ∧ spI s s_1 ∧ s.length + 1 - s_1.k < s.length + 1 - k ∧ True)) ∧ (((↑(s.getD (↑k : Int).toNat (0 : UInt8)).toNat : Int) == 32) = false → ∃ (s_1 : SpS), s = s ∧ q = s_1.q ∧ (↑f : Int) = (↑s_1.f
 : Int) ∧ IntKind.i64.wrap ((↑k : Int) + 1) = (↑s_1.k : Int) ∧ spI s s_1 ∧ s.length + 1 - s_1.k < s.length + 1 - k ∧ True))) ∧ (decide ((↑k : Int) ≤ (↑s.length : Int)) = false → q = wordsR s ∧ True)) := by kernel_rfl
theorem nr_e (s : List UInt8) : Go.Sy.Tree.holds (entryX F (lookC []) 300 Tryz.f33 b33 (nrF s) [.s s]) = ( (decide ((↑s.length : Int) > 0) = true → ((0 : Int) ≤ 0 ∧ (0 : Int) < (↑s.length : Int)) ∧ (((↑(s.getD (0 : Nat)
 (0 : UInt8)).toNat : Int) == 45) = true → ((0 : Int) ≤ 1 ∧ (1 : Int) ≤ (↑s.length : Int) ∧ (↑s.length : Int) ≤ (↑s.length : Int)) ∧ (decide ((↑(List.take ((↑s.length : Int).toNat - 1) (List.drop (1 : Nat) s)).length :
 Int) < 1) = true → (0 : Int) = (numR s).fst ∧ false = (numR s).snd ∧ True) ∧ (decide ((↑(List.take ((↑s.length : Int).toNat - 1) (List.drop (1 : Nat) s)).length : Int) < 1) = false → (decide ((↑(List.take ((↑s.length :
 Int).toNat - 1) (List.drop (1 : Nat) s)).length : Int) > 19) = true → (0 : Int) = (numR s).fst ∧ false = (numR s).snd ∧ True) ∧ (decide ((↑(List.take ((↑s.length : Int).toNat - 1) (List.drop (1 : Nat) s)).length : Int) >
 19) = false → ((0 : Int) ≤ 0 ∧ (0 : Int) < (↑(List.take ((↑s.length : Int).toNat - 1) (List.drop (1 : Nat) s)).length : Int)) ∧ (((↑((List.take ((↑s.length : Int).toNat - 1) (List.drop (1 : Nat) s)).getD (0 : Nat) (0 :
 UInt8)).toNat : Int) == 48) = true → (decide ((↑(List.take ((↑s.length : Int).toNat - 1) (List.drop (1 : Nat) s)).length : Int) > 1) = true → (0 : Int) = (numR s).fst ∧ false = (numR s).snd ∧ True) ∧ (decide
 ((↑(List.take ((↑s.length : Int).toNat - 1) (List.drop (1 : Nat) s)).length : Int) > 1) = false → (((↑(s.getD (0 : Nat) (0 : UInt8)).toNat : Int) == 45) = true → (0 : Int) = (numR s).fst ∧ false = (numR s).snd ∧ True) ∧
 (((↑(s.getD (0 : Nat) (0 : UInt8)).toNat : Int) == 45) = false → ∃ (s_1 : Nat), ((↑(s.getD (0 : Nat) (0 : UInt8)).toNat : Int) == 45) = negB s ∧ List.take ((↑s.length : Int).toNat - 1) (List.drop (1 : Nat) s) = dR s ∧ (0
 : Int) = (↑(valG (0 : Nat) (List.take s_1 (dR s))) : Int) ∧ (0 : Int) = (↑s_1 : Int) ∧ (s_1 ≤ (dR s).length ∧ badN s = false ∧ (List.take s_1 (dR s)).all digitB = true) ∧ True))) ∧ (((↑((List.take ((↑s.length :
 Int).toNat - 1) (List.drop (1 : Nat) s)).getD (0 : Nat) (0 : UInt8)).toNat : Int) == 48) = false → ∃ (s_1 : Nat), ((↑(s.getD (0 : Nat) (0 : UInt8)).toNat : Int) == 45) = negB s ∧ List.take ((↑s.length : Int).toNat - 1)
 (List.drop (1 : Nat) s) = dR s ∧ (0 : Int) = (↑(valG (0 : Nat) (List.take s_1 (dR s))) : Int) ∧ (0 : Int) = (↑s_1 : Int) ∧ (s_1 ≤ (dR s).length ∧ badN s = false ∧ (List.take s_1 (dR s)).all digitB = true) ∧ True)))) ∧
 (((↑(s.getD (0 : Nat) (0 : UInt8)).toNat : Int) == 45) = false → (decide ((↑s.length : Int) < 1) = true → (0 : Int) = (numR s).fst ∧ false = (numR s).snd ∧ True) ∧ (decide ((↑s.length : Int) < 1) = false → (decide
 ((↑s.length : Int) > 19) = true → (0 : Int) = (numR s).fst ∧ false = (numR s).snd ∧ True) ∧ (decide ((↑s.length : Int) > 19) = false → ((0 : Int) ≤ 0 ∧ (0 : Int) < (↑s.length : Int)) ∧ (((↑(s.getD (0 : Nat) (0 :
 UInt8)).toNat : Int) == 48) = true → (decide ((↑s.length : Int) > 1) = true → (0 : Int) = (numR s).fst ∧ false = (numR s).snd ∧ True) ∧ (decide ((↑s.length : Int) > 1) = false → (((↑(s.getD (0 : Nat) (0 : UInt8)).toNat :
 Int) == 45) = true → (0 : Int) = (numR s).fst ∧ false = (numR s).snd ∧ True) ∧ (((↑(s.getD (0 : Nat) (0 : UInt8)).toNat : Int) == 45) = false → ∃ (s_1 : Nat), ((↑(s.getD (0 : Nat) (0 : UInt8)).toNat : Int) == 45) = negB
 s ∧ s = dR s ∧ (0 : Int) = (↑(valG (0 : Nat) (List.take s_1 (dR s))) : Int) ∧ (0 : Int) = (↑s_1 : Int) ∧ (s_1 ≤ (dR s).length ∧ badN s = false ∧ (List.take s_1 (dR s)).all digitB = true) ∧ True))) ∧ (((↑(s.getD (0 : Nat)
 (0 : UInt8)).toNat : Int) == 48) = false → ∃ (s_1 : Nat), ((↑(s.getD (0 : Nat) (0 : UInt8)).toNat : Int) == 45) = negB s ∧ s = dR s ∧ (0 : Int) = (↑(valG (0 : Nat) (List.take s_1 (dR s))) : Int) ∧ (0 : Int) = (↑s_1 :
 Int) ∧ (s_1 ≤ (dR s).length ∧ badN s = false ∧ (List.take s_1 (dR s)).all digitB = true) ∧ True))))) ∧ (decide ((↑s.length : Int) > 0) = false → (decide ((↑s.length : Int) < 1) = true → (0 : Int) = (numR s).fst ∧ false =
 (numR s).snd ∧ True) ∧ (decide ((↑s.length : Int) < 1) = false → (decide ((↑s.length : Int) > 19) = true → (0 : Int) = (numR s).fst ∧ false = (numR s).snd ∧ True) ∧ (decide ((↑s.length : Int) > 19) = false → ((0 : Int) ≤
 0 ∧ (0 : Int) < (↑s.length : Int)) ∧ (((↑(s.getD (0 : Nat) (0 : UInt8)).toNat : Int) == 48) = true → (decide ((↑s.length : Int) > 1) = true → (0 : Int) = (numR s).fst ∧ false = (numR s).snd ∧ True) ∧ (decide ((↑s.length
 : Int) > 1) = false → ∃ (s_1 : Nat), false = negB s ∧ s = dR s ∧ (0 : Int) = (↑(valG (0 : Nat) (List.take s_1 (dR s))) : Int) ∧ (0 : Int) = (↑s_1 : Int) ∧ (s_1 ≤ (dR s).length ∧ badN s = false ∧ (List.take s_1 (dR
 s)).all digitB = true) ∧ True)) ∧ (((↑(s.getD (0 : Nat) (0 : UInt8)).toNat : Int) == 48) = false → ∃ (s_1 : Nat), false = negB s ∧ s = dR s ∧ (0 : Int) = (↑(valG (0 : Nat) (List.take s_1 (dR s))) : Int) ∧ (0 : Int) =
 (↑s_1 : Int) ∧ (s_1 ≤ (dR s).length ∧ badN s = false ∧ (List.take s_1 (dR s)).all digitB = true) ∧ True))))) := by kernel_rfl
theorem nr_9 (s : List UInt8) (k : Nat) : Go.Sy.Tree.holds (cutVC F (lookC []) 300 Tryz.f33 b33 (nrF s) 9 (nrC s) k) = ( (decide ((↑k : Int) < (↑(dR s).length : Int)) = true → ((0 : Int) ≤ (↑k : Int) ∧ (↑k : Int) < (↑(dR
 s).length : Int)) ∧ (decide ((↑((dR s).getD (↑k : Int).toNat (0 : UInt8)).toNat : Int) < 48) = true → (0 : Int) = (numR s).fst ∧ false = (numR s).snd ∧ True) ∧ (decide ((↑((dR s).getD (↑k : Int).toNat (0 : UInt8)).toNat
 : Int) < 48) = false → ((0 : Int) ≤ (↑k : Int) ∧ (↑k : Int) < (↑(dR s).length : Int)) ∧ (decide ((↑((dR s).getD (↑k : Int).toNat (0 : UInt8)).toNat : Int) > 57) = true → (0 : Int) = (numR s).fst ∧ false = (numR s).snd ∧
 True) ∧ (decide ((↑((dR s).getD (↑k : Int).toNat (0 : UInt8)).toNat : Int) > 57) = false → ((0 : Int) ≤ (↑k : Int) ∧ (↑k : Int) < (↑(dR s).length : Int)) ∧ ∃ (s_1 : Nat), negB s = negB s ∧ dR s = dR s ∧ IntKind.u64.wrap
 (IntKind.u64.wrap ((↑(valG (0 : Nat) (List.take k (dR s))) : Int) * 10) + IntKind.u64.wrap (IntKind.u8.wrap ((↑((dR s).getD (↑k : Int).toNat (0 : UInt8)).toNat : Int) - 48))) = (↑(valG (0 : Nat) (List.take s_1 (dR s))) :
 Int) ∧ IntKind.i64.wrap ((↑k : Int) + 1) = (↑s_1 : Int) ∧ (s_1 ≤ (dR s).length ∧ badN s = false ∧ (List.take s_1 (dR s)).all digitB = true) ∧ (dR s).length - s_1 < (dR s).length - k ∧ True))) ∧ (decide ((↑k : Int) <
 (↑(dR s).length : Int)) = false → (negB s = true → IntKind.i64.wrap (IntKind.i64.wrap ((0 : Int) - IntKind.i64.wrap (IntKind.u64.wrap ((↑(valG (0 : Nat) (List.take k (dR s))) : Int) - 1))) - 1) = (numR s).fst ∧ decide
 ((↑(valG (0 : Nat) (List.take k (dR s))) : Int) ≤ 9223372036854775808) = (numR s).snd ∧ True) ∧ (negB s = false → IntKind.i64.wrap (↑(valG (0 : Nat) (List.take k (dR s))) : Int) = (numR s).fst ∧ decide ((↑(valG (0 : Nat)
 (List.take k (dR s))) : Int) < 9223372036854775808) = (numR s).snd ∧ True))) := by kernel_rfl

/-! ### Split -/
theorem split_app (c : UInt8) : ∀ (w r : List UInt8), c ∉ w → splitL c (w ++ c :: r) = w :: splitL c r
  | [], r, _ => by simp [splitL]
  | b :: w, r, h => by
    have hb : b ≠ c := fun e => h (by rw [e]; exact List.mem_cons_self)
    rw [List.cons_append, splitL, if_neg hb, split_app c w r fun e => h (List.mem_cons_of_mem _ e)]
theorem split_one (c : UInt8) : ∀ (w : List UInt8), c ∉ w → splitL c w = [w]
  | [], _ => rfl
  | b :: w, h => by
    have hb : b ≠ c := fun e => h (by rw [e]; exact List.mem_cons_self)
    rw [splitL, if_neg hb, split_one c w fun e => h (List.mem_cons_of_mem _ e)]
theorem seg_drop {s : List UInt8} {k f : Nat} (hf : f ≤ k) (hk : k < s.length) : s.drop f = (s.drop f).take (k - f) ++ s[k] :: s.drop (k + 1) := by
  have h1 : (s.drop f).drop (k - f) = s[k] :: s.drop (k + 1) := by
    rw [List.drop_drop, show f + (k - f) = k by omega, List.drop_eq_getElem_cons hk]
  rw [← h1, List.take_append_drop]
theorem seg_snoc {s : List UInt8} {k f : Nat} (hf : f ≤ k) (hk : k < s.length) : (s.drop f).take (k + 1 - f) = (s.drop f).take (k - f) ++ [s[k]] := by
  have hl : k - f < (s.drop f).length := by rw [List.length_drop]; omega
  rw [show k + 1 - f = (k - f) + 1 by omega, List.take_succ_eq_append_getElem hl, List.getElem_drop]
  congr 3
  omega
theorem split_at {c : UInt8} {s : List UInt8} {k f : Nat} (hf : f ≤ k) (hk : k < s.length) (hn : c ∉ (s.drop f).take (k - f)) (hc : s[k] = c) : splitL c (s.drop f) = (s.drop f).take (k - f) :: splitL c (s.drop (k + 1)) := by
  have e := seg_drop hf hk
  have e2 := split_app c ((s.drop f).take (k - f)) (s.drop (k + 1)) hn
  rw [← e2, ← hc, ← e]
theorem split_end {c : UInt8} {s : List UInt8} {f : Nat} (hn : c ∉ (s.drop f).take (s.length - f)) : splitL c (s.drop f) = [(s.drop f).take (s.length - f)] := by
  have e : (s.drop f).take (s.length - f) = s.drop f := List.take_of_length_le (by rw [List.length_drop]; exact Nat.le_refl _)
  rw [e] at hn ⊢
  exact split_one c _ hn
theorem seg_len {s : List UInt8} {k f : Nat} (hf : f ≤ k) (hk : k ≤ s.length) : ((s.drop f).take (k - f)).length = k - f := by
  rw [List.length_take, List.length_drop]; omega
theorem any_nil {l : List (List UInt8)} : l.any (fun w => w == []) = true ↔ [] ∈ l := by
  rw [List.any_eq_true]
  constructor
  · rintro ⟨w, h1, h2⟩
    have : w = [] := by simpa using h2
    rwa [← this]
  · intro h
    exact ⟨[], h, rfl⟩
theorem words_no {s : List UInt8} (h : [] ∈ splitL 32 s) : wordsR s = [] := by
  unfold wordsR
  rw [if_pos (any_nil.2 h)]
theorem words_yes {s : List UInt8} (h : ∀ w ∈ splitL 32 s, w ≠ []) : wordsR s = splitL 32 s := by
  unfold wordsR
  rw [if_neg]
  intro e
  exact h [] (any_nil.1 e) rfl
theorem sp_e_ok (s : List UInt8) : Paid (entryX F (lookC []) 300 Tryz.f32 b32 (spF s) [.s s]) := by
  refine ⟨?_⟩
  rw [sp_e]
  exact ⟨⟨0, 0, []⟩, rfl, rfl, rfl, rfl, .inl ⟨Nat.zero_le _, Nat.le_refl _, by simp, rfl, fun w h => by simp at h, Nat.le_refl _⟩, trivial⟩
theorem getD_get {s : List UInt8} {k : Nat} (h : k < s.length) : s.getD k 0 = s[k] := by
  rw [List.getD_eq_getElem?_getD, List.getElem?_eq_getElem h]; rfl
theorem byte_eq {b c : UInt8} (h : ((b.toNat : Int) == (c.toNat : Int)) = true) : b = c := by
  have h : (b.toNat : Int) = (c.toNat : Int) := eq_of_beq h
  exact UInt8.toNat_inj.1 (by omega)
theorem byte_ne {b c : UInt8} (h : ((b.toNat : Int) == (c.toNat : Int)) = false) : b ≠ c := by
  rintro rfl
  simp at h
theorem sp_4_ok (s : List UInt8) (hs : s.length ≤ 20000) (k f : Nat) (q : List (List UInt8)) (hI : spI s ⟨k, f, q⟩) : Paid (cutVC F (lookC []) 300 Tryz.f32 b32 (spF s) 4 (spC s) ⟨k, f, q⟩) := by
  refine ⟨?_⟩
  rw [sp_4]
  rcases hI with ⟨hk, hf, hn, he, hq, hl⟩ | ⟨hk, he, hq⟩
  · have hk : k ≤ s.length := hk
    have hf : f ≤ k := hf
    have hn : (32 : UInt8) ∉ (s.drop f).take (k - f) := hn
    have he : splitL 32 s = q ++ splitL 32 (s.drop f) := he
    have hq : ∀ w ∈ q, w ≠ [] := hq
    have hl : q.length ≤ k := hl
    have hw : IntKind.i64.wrap ((k : Int) + 1) = ((k + 1 : Nat) : Int) := by rw [wrap64 (by omega) (by omega)]; rfl
    have hsl := seg_len hf hk
    rw [hw, Int.toNat_natCast, Int.toNat_natCast]
    have hbig : (q.length + [(s.drop f).take (k - f)].length) * 16 ≤ 140737488355328 := by simp only [List.length_cons, List.length_nil]; omega
    have hq' : ¬ k = f → ∀ w ∈ q ++ [(s.drop f).take (k - f)], w ≠ [] := by
      intro hkf w hw2
      rcases List.mem_append.1 hw2 with h | h
      · exact hq w h
      · rw [List.mem_singleton.1 h]
        intro e
        rw [e] at hsl
        simp at hsl
        omega
    have hql : (q ++ [(s.drop f).take (k - f)]).length ≤ k + 1 := by simp only [List.length_append, List.length_cons, List.length_nil]; omega
    refine ⟨fun h => ⟨fun h1 => ⟨fun h2 => ⟨?_, trivial⟩, fun h2 => ⟨⟨by omega, by omega, by omega⟩, hbig, ⟨k + 1, k + 1, _⟩, rfl, rfl, rfl, rfl, .inr ⟨?_, ?_, ?_⟩, ?_, trivial⟩⟩, fun h1 => ⟨⟨by omega, ?_⟩, fun h3 => ⟨fun h2 => ⟨?_, trivial⟩, fun h2 => ⟨⟨by omega, by omega, by omega⟩, hbig, ⟨k + 1, k + 1, _⟩, rfl, rfl, rfl, rfl, .inl ⟨?_, Nat.le_refl _, ?_, ?_, ?_, hql⟩, ?_, trivial⟩⟩, fun h3 => ⟨⟨k + 1, f, q⟩, rfl, rfl, rfl, rfl, .inl ⟨?_, ?_, ?_, he, hq, ?_⟩, ?_, trivial⟩⟩⟩, fun h => ?_⟩
    · have e1 : k = s.length := by have := eq_of_beq h1; omega
      have e2 : k = f := by have := eq_of_beq h2; omega
      have : splitL 32 (s.drop f) = [[]] := by rw [← e2, e1, List.drop_length]; rfl
      exact (words_no (by rw [he, this]; simp)).symm
    · have e1 : k = s.length := by have := eq_of_beq h1; omega
      show k + 1 = s.length + 1
      rw [e1]
    · have e1 : k = s.length := by have := eq_of_beq h1; omega
      show splitL 32 s = q ++ [(s.drop f).take (k - f)]
      rw [e1] at hn ⊢
      rw [he, split_end hn]
    · exact hq' (fun e => by have := ne_of_beq_false h2; omega)
    · show s.length + 1 - (k + 1) < s.length + 1 - k
      omega
    · have := ne_of_beq_false h1; omega
    · have hlt : k < s.length := by have := ne_of_beq_false h1; omega
      rw [getD_get hlt] at h3
      have e2 : k = f := by have := eq_of_beq h2; omega
      have h4 := split_at hf hlt hn (byte_eq (c := 32) h3)
      have h5 : (s.drop f).take (k - f) = [] := by rw [← e2, Nat.sub_self]; rfl
      rw [h5] at h4
      exact (words_no (by rw [he, h4]; simp)).symm
    · have := ne_of_beq_false h1
      show k + 1 ≤ s.length
      omega
    · show (32 : UInt8) ∉ (s.drop (k + 1)).take (k + 1 - (k + 1))
      simp
    · have hlt : k < s.length := by have := ne_of_beq_false h1; omega
      rw [getD_get hlt] at h3
      show splitL 32 s = (q ++ [(s.drop f).take (k - f)]) ++ splitL 32 (s.drop (k + 1))
      rw [he, split_at hf hlt hn (byte_eq (c := 32) h3), List.append_assoc]
      rfl
    · exact hq' (fun e => by have := ne_of_beq_false h2; omega)
    · have := ne_of_beq_false h1
      show s.length + 1 - (k + 1) < s.length + 1 - k
      omega
    · have := ne_of_beq_false h1
      show k + 1 ≤ s.length
      omega
    · show f ≤ k + 1
      omega
    · have hlt : k < s.length := by have := ne_of_beq_false h1; omega
      rw [getD_get hlt] at h3
      show (32 : UInt8) ∉ (s.drop f).take (k + 1 - f)
      rw [seg_snoc hf hlt]
      intro e
      rcases List.mem_append.1 e with e | e
      · exact hn e
      · exact byte_ne (c := 32) h3 (List.mem_singleton.1 e).symm
    · show q.length ≤ k + 1
      omega
    · have := ne_of_beq_false h1
      show s.length + 1 - (k + 1) < s.length + 1 - k
      omega
    · simp only [decide_eq_false_iff_not] at h
      omega
  · have hk : k = s.length + 1 := hk
    have he : splitL 32 s = q := he
    have hq : ∀ w ∈ q, w ≠ [] := hq
    refine ⟨fun h => ?_, fun h => ⟨?_, trivial⟩⟩
    · simp only [decide_eq_true_eq] at h
      omega
    · rw [words_yes (by rw [he]; exact hq), he]
theorem plain3 : ∀ y : cod.T 3, (cod.enc 3 y).all plainS = true := fun y => rfl
theorem splitROk : CtrOk1 F.S 32 splitRCtr :=
  mkCtrL_paid (fn := Tryz.f32) (body := b32) (ctr := lookC []) codOk noExt hookLow noneOk Tryz.func32 rfl (by kernel_rfl) (by kernel_rfl) [.str] (fun (x : List UInt8 × Unit) => x.1.length ≤ 20000) 3 (fun (x : List UInt8 × Unit) => wordsR x.1) true 0 plain3 300 (fun (x : List UInt8 × Unit) => [(4, spC x.1)]) (show 1 ≤ Tryz.f32.ntmps by decide) (show Tryz.f32.ntmps ≤ 512 by decide) (by kernel_rfl)
    (fun (x : List UInt8 × Unit) h => sp_e_ok x.1) (fun (x : List UInt8 × Unit) h q hm y hI => by
      simp only [List.mem_singleton] at hm
      subst hm
      exact sp_4_ok x.1 h y.k y.f y.q hI)

/-! ### number -/
theorem neg_cons (c : UInt8) (r : List UInt8) : negB (c :: r) = ((c.toNat : Int) == 45) := by
  unfold negB
  rw [List.take_succ_cons, List.take_zero]
  cases h : ((c.toNat : Int) == 45) with
  | true =>
    have := byte_eq (c := 45) h
    rw [this]
    rfl
  | false =>
    have := byte_ne (c := 45) h
    simpa using this
theorem take_rest (c : UInt8) (r : List UInt8) : List.take (((c :: r).length : Int).toNat - 1) (List.drop 1 (c :: r)) = r := by
  rw [Int.toNat_natCast, List.drop_succ_cons, List.drop_zero]
  exact List.take_of_length_le (by simp)
theorem num_bad {s : List UInt8} (h : badN s = true) : (0 : Int) = (numR s).1 ∧ false = (numR s).2 ∧ True := by
  unfold numR
  rw [if_pos h]
  exact ⟨rfl, rfl, trivial⟩
theorem dR_neg {s : List UInt8} (h : negB s = true) : dR s = s.drop 1 := by unfold dR; rw [if_pos h]
theorem dR_pos {s : List UInt8} (h : negB s = false) : dR s = s := by unfold dR; rw [if_neg (by rw [h]; exact Bool.false_ne_true)]
theorem bad_short {s : List UInt8} (h : (dR s).length < 1) : badN s = true := by
  unfold badN
  rw [decide_eq_true h]
  rfl
theorem bad_long {s : List UInt8} (h : (dR s).length > 19) : badN s = true := by
  unfold badN
  rw [decide_eq_true h, Bool.or_true]
  rfl
theorem bad_zero {s : List UInt8} (h0 : ((dR s).getD 0 0).toNat = 48) (h : (dR s).length > 1 ∨ negB s = true) : badN s = true := by
  unfold badN
  have : ((((dR s).getD 0 0).toNat == 48) && (decide ((dR s).length > 1) || negB s)) = true := by
    rw [h0]
    rcases h with h | h
    · rw [decide_eq_true h]; rfl
    · rw [h, Bool.or_true]; rfl
  rw [this, Bool.or_true]
theorem bad_not {s : List UInt8} (h1 : ¬ (dR s).length < 1) (h2 : ¬ (dR s).length > 19) (h3 : ((dR s).getD 0 0).toNat = 48 → ¬ (dR s).length > 1 ∧ negB s = false) : badN s = false := by
  unfold badN
  rw [decide_eq_false h1, decide_eq_false h2]
  by_cases h0 : ((dR s).getD 0 0).toNat = 48
  · obtain ⟨g1, g2⟩ := h3 h0
    rw [decide_eq_false g1, g2]
    simp
  · have : (((dR s).getD 0 0).toNat == 48) = false := by simpa using h0
    rw [this]
    rfl
theorem nr_start {s : List UInt8} {b : Bool} {d : List UInt8} (hb : b = negB s) (hd : d = dR s) (h : badN s = false) : ∃ (s_1 : Nat), b = negB s ∧ d = dR s ∧ (0 : Int) = ((valG 0 (List.take s_1 (dR s)) : Nat) : Int) ∧ (0 : Int) = (s_1 : Int) ∧
    (s_1 ≤ (dR s).length ∧ badN s = false ∧ (List.take s_1 (dR s)).all digitB = true) ∧ True :=
  ⟨0, hb, hd, rfl, rfl, ⟨Nat.zero_le _, h, rfl⟩, trivial⟩
theorem nr_e_ok (s : List UInt8) (hs : s.length ≤ 100000) : Paid (entryX F (lookC []) 300 Tryz.f33 b33 (nrF s) [.s s]) := by
  refine ⟨?_⟩
  rw [nr_e]
  rcases s with _ | ⟨c, r⟩
  · have hb : badN [] = true := by kernel_rfl
    have hz := num_bad hb
    repeat' (first | apply And.intro | intro _)
    all_goals first
      | exact hz.1
      | exact hz.2.1
      | exact trivial
      | (simp at *; done)
  · have hn := neg_cons c r
    rw [take_rest, show (c :: r).getD 0 0 = c from rfl]
    cases hc : ((c.toNat : Int) == 45) with
    | true =>
      rw [hc] at hn
      have hd : dR (c :: r) = r := by rw [dR_neg hn]; rfl
      have hc48 : ¬ (((c.toNat : Int) == 48) = true) := by
        have := eq_of_beq hc
        simp [this]
      refine ⟨fun g => ⟨by constructor <;> simp <;> omega, fun _ => ⟨⟨by omega, by simp; omega, Int.le_refl _⟩, fun g1 => num_bad (bad_short (by rw [hd]; simp only [decide_eq_true_eq] at g1; omega)), fun g1 => ⟨fun g2 => num_bad (bad_long (by rw [hd]; simp only [decide_eq_true_eq] at g2; omega)), fun g2 => ?_⟩⟩, nofun⟩, fun g => by simp at g⟩
      simp only [decide_eq_false_iff_not] at g1 g2
      refine ⟨⟨by omega, by omega⟩, fun g3 => ⟨fun g4 => num_bad (bad_zero (by rw [hd]; have := eq_of_beq g3; omega) (.inr hn)), fun g4 => ⟨fun _ => num_bad (bad_zero (by rw [hd]; have := eq_of_beq g3; omega) (.inr hn)), nofun⟩⟩, fun g3 => nr_start hn.symm hd.symm (bad_not (by rw [hd]; omega) (by rw [hd]; omega) fun e => ?_)⟩
      rw [hd] at e
      have := ne_of_beq_false g3
      omega
    | false =>
      rw [hc] at hn
      have hd : dR (c :: r) = c :: r := dR_pos hn
      refine ⟨fun g => ⟨by constructor <;> simp <;> omega, nofun, fun _ => ⟨fun g1 => num_bad (bad_short (by rw [hd]; simp only [decide_eq_true_eq] at g1; omega)), fun g1 => ⟨fun g2 => num_bad (bad_long (by rw [hd]; simp only [decide_eq_true_eq] at g2; omega)), fun g2 => ?_⟩⟩⟩, fun g => by simp at g⟩
      simp only [decide_eq_false_iff_not] at g1 g2
      refine ⟨⟨by omega, by omega⟩, fun g3 => ⟨fun g4 => num_bad (bad_zero (by rw [hd]; have := eq_of_beq g3; show c.toNat = 48; omega) (.inl (by rw [hd]; simp only [decide_eq_true_eq] at g4; omega))), fun g4 => ⟨nofun, fun _ => nr_start hn.symm hd.symm (bad_not (by rw [hd]; omega) (by rw [hd]; omega) fun e => ⟨?_, hn⟩)⟩⟩, fun g3 => nr_start hn.symm hd.symm (bad_not (by rw [hd]; omega) (by rw [hd]; omega) fun e => ?_)⟩
      · rw [hd]
        simp only [decide_eq_false_iff_not] at g4
        omega
      · rw [hd] at e
        have e : c.toNat = 48 := e
        have := ne_of_beq_false g3
        omega
theorem valG_cons (acc : Nat) (c : UInt8) (r : List UInt8) : valG acc (c :: r) = valG (acc * 10 + (c.toNat - 48)) r := by
  delta valG
  rfl
theorem valG_nil (acc : Nat) : valG acc [] = acc := by
  delta valG
  rfl
theorem valG_app : ∀ (l : List UInt8) (acc : Nat) (c : UInt8), valG acc (l ++ [c]) = valG acc l * 10 + (c.toNat - 48)
  | [], acc, c => by rw [List.nil_append, valG_cons, valG_nil, valG_nil]
  | b :: l, acc, c => by rw [List.cons_append, valG_cons, valG_cons, valG_app l]
theorem digit_le {c : UInt8} (h : digitB c = true) : 48 ≤ c.toNat ∧ c.toNat ≤ 57 := by
  simp only [digitB, Bool.and_eq_true, decide_eq_true_eq] at h
  exact h
theorem valG_lt : ∀ (l : List UInt8) (acc : Nat), l.all digitB = true → valG acc l + 1 ≤ (acc + 1) * 10 ^ l.length
  | [], acc, _ => by rw [valG_nil]; simp
  | c :: l, acc, h => by
    rw [List.all_cons, Bool.and_eq_true] at h
    have h1 := valG_lt l (acc * 10 + (c.toNat - 48)) h.2
    have h2 := digit_le h.1
    rw [valG_cons, List.length_cons, Nat.pow_succ]
    have h3 : acc * 10 + (c.toNat - 48) + 1 ≤ (acc + 1) * 10 := by omega
    have h4 := Nat.mul_le_mul_right (10 ^ l.length) h3
    calc _ ≤ _ := h1
      _ ≤ (acc + 1) * 10 * 10 ^ l.length := h4
      _ = (acc + 1) * (10 ^ l.length * 10) := by rw [Nat.mul_assoc, Nat.mul_comm 10]
theorem bad_len {s : List UInt8} (h : badN s = false) : 1 ≤ (dR s).length ∧ (dR s).length ≤ 19 := by
  constructor
  · rcases Nat.lt_or_ge (dR s).length 1 with h1 | h1
    · rw [bad_short h1] at h; cases h
    · exact h1
  · rcases Nat.lt_or_ge 19 (dR s).length with h1 | h1
    · rw [bad_long h1] at h; cases h
    · exact h1
theorem num_char {s : List UInt8} {k : Nat} (hb : badN s = false) (hk : k < (dR s).length) (h : digitB (dR s)[k] = false) : (0 : Int) = (numR s).1 ∧ false = (numR s).2 ∧ True := by
  have ha : ¬ (dR s).all digitB = true := by
    intro e
    rw [List.all_eq_true] at e
    rw [e _ (List.getElem_mem hk)] at h
    cases h
  unfold numR
  rw [if_neg (by rw [hb]; exact Bool.false_ne_true), if_neg ha]
  exact ⟨rfl, rfl, trivial⟩
theorem nr_9_ok (s : List UInt8) (hs : s.length ≤ 100000) (k : Nat) (hk : k ≤ (dR s).length) (hb : badN s = false) (ha : ((dR s).take k).all digitB = true) : Paid (cutVC F (lookC []) 300 Tryz.f33 b33 (nrF s) 9 (nrC s) k) := by
  refine ⟨?_⟩
  rw [nr_9]
  obtain ⟨hl1, hl2⟩ := bad_len hb
  refine ⟨fun h => ?_, fun h => ?_⟩
  · simp only [decide_eq_true_eq] at h
    have hlt : k < (dR s).length := by omega
    rw [Int.toNat_natCast, getD_get hlt]
    refine ⟨⟨by omega, h⟩, fun g => num_char hb hlt ?_, fun g => ⟨⟨by omega, h⟩, fun g2 => num_char hb hlt ?_, fun g2 => ⟨⟨by omega, h⟩, k + 1, rfl, rfl, ?_, ?_, ⟨by omega, hb, ?_⟩, by omega, trivial⟩⟩⟩
    · simp only [decide_eq_true_eq] at g
      unfold digitB
      rw [decide_eq_false (by omega)]
      rfl
    · simp only [decide_eq_true_eq] at g2
      unfold digitB
      rw [decide_eq_false (p := (dR s)[k].toNat ≤ 57) (by omega), Bool.and_false]
    · simp only [decide_eq_false_iff_not] at g g2
      rw [List.take_succ_eq_append_getElem hlt, valG_app]
      have hv := valG_lt ((dR s).take k) 0 ha
      have hp : 10 ^ ((dR s).take k).length ≤ 10 ^ 18 := Nat.pow_le_pow_right (by decide) (by rw [List.length_take]; omega)
      have h18 : (10 : Nat) ^ 18 = 1000000000000000000 := by decide
      rw [h18] at hp
      have w8 : ∀ x : Int, 0 ≤ x → x ≤ 255 → IntKind.u8.wrap x = x := fun x h1 h2 => by
        simp only [IntKind.wrap, IntKind.signed, IntKind.bits]
        simp
        omega
      have w6 : ∀ x : Int, 0 ≤ x → x < 18446744073709551616 → IntKind.u64.wrap x = x := fun x h1 h2 => by
        simp only [IntKind.wrap, IntKind.signed, IntKind.bits]
        simp
        omega
      generalize valG 0 ((dR s).take k) = u at *
      generalize (dR s)[k] = c at *
      rw [w8 _ (by omega) (by omega), w6 ((u : Int) * 10) (by omega) (by omega), w6 ((c.toNat : Int) - 48) (by omega) (by omega), w6 _ (by omega) (by omega)]
      omega
    · rw [wrap64 (by omega) (by omega)]; rfl
    · rw [List.take_succ_eq_append_getElem hlt, List.all_append, ha]
      simp only [decide_eq_false_iff_not] at g g2
      simp only [List.all_cons, List.all_nil, digitB, Bool.true_and, Bool.and_true, Bool.and_eq_true, decide_eq_true_eq]
      omega
  · simp only [decide_eq_false_iff_not] at h
    have hkk : k = (dR s).length := by omega
    subst hkk
    rw [List.take_length] at ha ⊢
    have e : numR s = if negB s = true then (IntKind.i64.wrap (IntKind.i64.wrap (0 - IntKind.i64.wrap (IntKind.u64.wrap ((valG 0 (dR s) : Int) - 1))) - 1), decide (valG 0 (dR s) ≤ 9223372036854775808)) else (IntKind.i64.wrap (valG 0 (dR s) : Int), decide (valG 0 (dR s) < 9223372036854775808)) := by
      unfold numR
      rw [if_neg (by rw [hb]; exact Bool.false_ne_true), if_pos ha]
    refine ⟨fun g => ?_, fun g => ?_⟩
    · rw [e, if_pos g]
      exact ⟨rfl, by apply decide_eq_decide.2; omega, trivial⟩
    · rw [e, if_neg (by rw [g]; exact Bool.false_ne_true)]
      exact ⟨rfl, by apply decide_eq_decide.2; omega, trivial⟩
theorem nrOk : CtrOk1 F.S 33 (mkCtr nrD) :=
  mkCtr_paid (fn := Tryz.f33) (body := b33) (ctr := lookC []) codOk noExt hookLow noneOk Tryz.func33 rfl rfl (by kernel_rfl) nrD 300 (fun (x : List UInt8 × Unit) => [(9, nrC x.1)]) (show 1 ≤ Tryz.f33.ntmps by decide) (show Tryz.f33.ntmps ≤ 512 by decide) (by kernel_rfl) (fun _ _ => ⟨rfl, rfl⟩)
    (fun (x : List UInt8 × Unit) h => nr_e_ok x.1 h) (fun (x : List UInt8 × Unit) h q hm y hI => by
      simp only [List.mem_singleton] at hm
      subst hm
      exact nr_9_ok x.1 h y hI.1 hI.2.1 hI.2.2)
end Go.Proofs.YtbbbpnaghipfmaaGreatDoor

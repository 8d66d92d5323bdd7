/- syncopelaw6.CheckRegion: what its loop owes is paid. -/
import Derived.Test.YtjboohjicdmidaaDoorRL
namespace Go.Proofs.YtjboohjicdmidaaDoor
open Go.RowKit Go.Am Go.Sy
set_option linter.unusedVariables false

theorem law_e (ls : List Lock) (d : Int) : Go.Sy.Tree.holds (entryX F ctr1 2000 Tryd.f5 b5 (lawD ls d) [.tl (T := T) 1 ls, .i .i64 d]) = (
(decide ((↑ls.length : Int) > (6 : Int)) = true → true = true ∧ True) ∧
  (decide ((↑ls.length : Int) > (6 : Int)) = false →
    rgD.pre
        (Config.mk (0 : Int) (0 : Int) (0 : Int) (0 : Int) (0 : Int) (0 : Int) (0 : Int) (0 : Int) [] ls [] [], d, ()) ∧
      ∃ (s : Nat),
        ls = ls ∧
          d = d ∧
            region
                  (Config.mk (0 : Int) (0 : Int) (0 : Int) (0 : Int) (0 : Int) (0 : Int) (0 : Int) (0 : Int) [] ls []
                      []).locks
                  d =
                region ls d ∧
              (0 : Int) = (↑s : Int) ∧ (s ≤ ls.length ∧ ls.length ≤ (6 : Nat)) ∧ True)) := by kernel_rfl
theorem law_c (ls : List Lock) (d : Int) (i : Nat) : Go.Sy.Tree.holds (cutVC F ctr1 2000 Tryd.f5 b5 (lawD ls d) 6 (lawC ls d) i) = (
(decide ((↑i : Int) < (↑ls.length : Int)) = true →
    ((0 : Int) ≤ (↑i : Int) ∧ (↑i : Int) < (↑ls.length : Int)) ∧
      (decide ((cod.at (1 : Nat) ls (↑i : Int)).len > (0 : Int)) = true →
          (decide (d ≥ (cod.at (1 : Nat) ls (↑i : Int)).fr) = true →
              ((!decide
                          (IntKind.u64.wrap
                              (IntKind.u64.wrap d - IntKind.u64.wrap (cod.at (1 : Nat) ls (↑i : Int)).fr) <
                            IntKind.u64.wrap (cod.at (1 : Nat) ls (↑i : Int)).len) ==
                        (region ls d == (↑i : Int))) =
                    true →
                  (decide (region ls d < (0 : Int)) = true → false = true ∧ True) ∧
                    (decide (region ls d < (0 : Int)) = false →
                      (decide ((↑i : Int) ≤ region ls d) = true → false = true ∧ True) ∧
                        (decide ((↑i : Int) ≤ region ls d) = false →
                          ∃ (s : Nat),
                            ls = ls ∧
                              d = d ∧
                                region ls d = region ls d ∧
                                  IntKind.i64.wrap ((↑i : Int) + (1 : Int)) = (↑s : Int) ∧
                                    (s ≤ ls.length ∧ ls.length ≤ (6 : Nat)) ∧ ls.length - s < ls.length - i ∧ True))) ∧
                ((!decide
                          (IntKind.u64.wrap
                              (IntKind.u64.wrap d - IntKind.u64.wrap (cod.at (1 : Nat) ls (↑i : Int)).fr) <
                            IntKind.u64.wrap (cod.at (1 : Nat) ls (↑i : Int)).len) ==
                        (region ls d == (↑i : Int))) =
                    false →
                  ∃ (s : Nat),
                    ls = ls ∧
                      d = d ∧
                        region ls d = region ls d ∧
                          IntKind.i64.wrap ((↑i : Int) + (1 : Int)) = (↑s : Int) ∧
                            (s ≤ ls.length ∧ ls.length ≤ (6 : Nat)) ∧ ls.length - s < ls.length - i ∧ True)) ∧
            (decide (d ≥ (cod.at (1 : Nat) ls (↑i : Int)).fr) = false →
              ((!false == (region ls d == (↑i : Int))) = true →
                  (decide (region ls d < (0 : Int)) = true → false = true ∧ True) ∧
                    (decide (region ls d < (0 : Int)) = false →
                      (decide ((↑i : Int) ≤ region ls d) = true → false = true ∧ True) ∧
                        (decide ((↑i : Int) ≤ region ls d) = false →
                          ∃ (s : Nat),
                            ls = ls ∧
                              d = d ∧
                                region ls d = region ls d ∧
                                  IntKind.i64.wrap ((↑i : Int) + (1 : Int)) = (↑s : Int) ∧
                                    (s ≤ ls.length ∧ ls.length ≤ (6 : Nat)) ∧ ls.length - s < ls.length - i ∧ True))) ∧
                ((!false == (region ls d == (↑i : Int))) = false →
                  ∃ (s : Nat),
                    ls = ls ∧
                      d = d ∧
                        region ls d = region ls d ∧
                          IntKind.i64.wrap ((↑i : Int) + (1 : Int)) = (↑s : Int) ∧
                            (s ≤ ls.length ∧ ls.length ≤ (6 : Nat)) ∧ ls.length - s < ls.length - i ∧ True))) ∧
        (decide ((cod.at (1 : Nat) ls (↑i : Int)).len > (0 : Int)) = false →
          ((!false == (region ls d == (↑i : Int))) = true →
              (decide (region ls d < (0 : Int)) = true → false = true ∧ True) ∧
                (decide (region ls d < (0 : Int)) = false →
                  (decide ((↑i : Int) ≤ region ls d) = true → false = true ∧ True) ∧
                    (decide ((↑i : Int) ≤ region ls d) = false →
                      ∃ (s : Nat),
                        ls = ls ∧
                          d = d ∧
                            region ls d = region ls d ∧
                              IntKind.i64.wrap ((↑i : Int) + (1 : Int)) = (↑s : Int) ∧
                                (s ≤ ls.length ∧ ls.length ≤ (6 : Nat)) ∧ ls.length - s < ls.length - i ∧ True))) ∧
            ((!false == (region ls d == (↑i : Int))) = false →
              ∃ (s : Nat),
                ls = ls ∧
                  d = d ∧
                    region ls d = region ls d ∧
                      IntKind.i64.wrap ((↑i : Int) + (1 : Int)) = (↑s : Int) ∧
                        (s ≤ ls.length ∧ ls.length ≤ (6 : Nat)) ∧ ls.length - s < ls.length - i ∧ True))) ∧
  (decide ((↑i : Int) < (↑ls.length : Int)) = false →
    (decide (region ls d ≥ (-1 : Int)) = true →
        (decide (region ls d < (↑ls.length : Int)) = true →
            rgD.pre
                (Config.mk (1 : Int) (1 : Int) (1 : Int) (32 : Int) (1 : Int) (0 : Int) (20 : Int) (1073741824 : Int)
                    [(0 : Int), (1 : Int), (2 : Int), (3 : Int), (0 : Int), (1 : Int), (2 : Int), (3 : Int), (0 : Int)]
                    [Lock.mk (1 : Int) (0 : Int) (3 : Int), Lock.mk (2 : Int) (3 : Int) (3 : Int),
                      Lock.mk (3 : Int) (6 : Int) (3 : Int)]
                    [(0 : Int), (1 : Int), (2 : Int)] [[]],
                  (4 : Int), ()) ∧
              (true = true →
                  rgD.pre
                      (Config.mk (1 : Int) (1 : Int) (1 : Int) (32 : Int) (1 : Int) (0 : Int) (20 : Int)
                          (1073741824 : Int)
                          [(0 : Int), (1 : Int), (2 : Int), (3 : Int), (0 : Int), (1 : Int), (2 : Int), (3 : Int),
                            (0 : Int)]
                          [Lock.mk (1 : Int) (0 : Int) (3 : Int), Lock.mk (2 : Int) (3 : Int) (3 : Int),
                            Lock.mk (3 : Int) (6 : Int) (3 : Int)]
                          [(0 : Int), (1 : Int), (2 : Int)] [[]],
                        (9 : Int), ()) ∧
                    true = true ∧ True) ∧
                (true = false → false = true ∧ True)) ∧
          (decide (region ls d < (↑ls.length : Int)) = false → false = true ∧ True)) ∧
      (decide (region ls d ≥ (-1 : Int)) = false → false = true ∧ True))) := by kernel_rfl
theorem region_lt (ls : List Lock) (d : Int) : -1 ≤ region ls d ∧ region ls d < ls.length := by
  unfold region
  split
  · rename_i i h
    have := (List.findIdx?_eq_some_iff_getElem.1 h).1
    omega
  · omega
theorem region_at {ls : List Lock} {d : Int} {i : Nat} (hi : i < ls.length) (h : region ls d = i) : has d ls[i] = true := by
  unfold region at h
  split at h
  · rename_i j hj
    obtain ⟨h1, h2, _⟩ := List.findIdx?_eq_some_iff_getElem.1 hj
    have : j = i := by omega
    subst this
    exact h2
  · omega
theorem region_le {ls : List Lock} {d : Int} {i : Nat} (hi : i < ls.length) (h : has d ls[i] = true) : 0 ≤ region ls d ∧ region ls d ≤ i := by
  unfold region
  split
  · rename_i j hj
    obtain ⟨h1, h2, h3⟩ := List.findIdx?_eq_some_iff_getElem.1 hj
    rcases Nat.lt_or_ge i j with h4 | h4
    · exact absurd h (h3 i h4)
    · omega
  · rename_i hj
    rw [List.findIdx?_eq_none_iff] at hj
    rw [hj ls[i] (List.getElem_mem hi)] at h
    cases h

theorem law_c_ok (ls : List Lock) (d : Int) (i : Nat) (hI : (lawC ls d).I i) : Go.Sy.Tree.holds (cutVC F ctr1 2000 Tryd.f5 b5 (lawD ls d) 6 (lawC ls d) i) := by
  have h1 : i ≤ ls.length := hI.1
  have h2 : ls.length ≤ 6 := hI.2
  rw [law_c]
  have hr := region_lt ls d
  refine ⟨fun h0 => ⟨⟨by omega, by simpa using h0⟩, ?_⟩, fun h0 => ⟨fun _ => ⟨fun _ => ⟨show (3 : Nat) ≤ 1000000 by omega, fun _ => ⟨show (3 : Nat) ≤ 1000000 by omega, rfl, trivial⟩, nofun⟩, fun g => ?_⟩, fun g => ?_⟩⟩
  · have hi : i < ls.length := by simpa using h0
    have e : cod.at 1 ls (i : Int) = ls[i] := at_get (C := cod) (n := 1) hi
    rw [e]
    have ha : region ls d = i → has d ls[i] = true := region_at hi
    have hb : has d ls[i] = true → 0 ≤ region ls d ∧ region ls d ≤ i := region_le hi
    have next : ∃ (s : Nat), ls = ls ∧ d = d ∧ region ls d = region ls d ∧ IntKind.i64.wrap ((↑i : Int) + (1 : Int)) = (↑s : Int) ∧
        (s ≤ ls.length ∧ ls.length ≤ (6 : Nat)) ∧ ls.length - s < ls.length - i ∧ True :=
      ⟨i + 1, rfl, rfl, rfl, succ64 (by omega), ⟨by omega, h2⟩, by omega, trivial⟩
    unfold has at ha hb
    grind
  · simp at g; omega
  · simp at g; omega
theorem law_e_ok (ls : List Lock) (d : Int) : Go.Sy.Tree.holds (entryX F ctr1 2000 Tryd.f5 b5 (lawD ls d) [.tl (T := T) 1 ls, .i .i64 d]) := by
  rw [law_e]
  refine ⟨fun _ => ⟨rfl, trivial⟩, fun h => ⟨?_, 0, rfl, rfl, rfl, rfl, ⟨Nat.zero_le _, by simp at h; omega⟩, trivial⟩⟩
  have : ls.length ≤ 6 := by simp at h; omega
  show ls.length ≤ 1000000
  omega
set_option maxRecDepth 10000 in
theorem cuts_ok (ls : List Lock) (d : Int) : ∀ p, p ∈ [(6, lawC ls d)] → ∀ s, p.2.I s → (cutVC F ctr1 2000 Tryd.f5 b5 ⟨[(6, lawC ls d)], .b true, []⟩ p.1 p.2 s).holds := by
  intro p hm s hI
  have hm : p = (6, lawC ls d) := by simpa using hm
  subst hm
  exact law_c_ok ls d s hI
set_option maxRecDepth 10000 in
theorem region_run (ls : List Lock) (d : Int) {av : List AVal} (hA : Ers (C := cod) (away []) [.tl (T := T) 1 ls, .i .i64 d] av) : ∃ n H', runA S n 0 5 av [] = some (.bool true, H') :=
  law_runs (F := F) (fn := Tryd.f5) (body := b5) (args := [.tl (T := T) 1 ls, .i .i64 d]) codOk noExt hookLow ctr1Ok Tryd.func5 rfl rfl rfl 2000 [(6, lawC ls d)] (show 2 ≤ 88 by decide) (show 88 ≤ 512 by decide) (by kernel_rfl) (law_e_ok ls d) (cuts_ok ls d) hA
end Go.Proofs.YtjboohjicdmidaaDoor

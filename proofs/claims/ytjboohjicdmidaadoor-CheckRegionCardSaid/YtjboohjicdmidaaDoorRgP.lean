/- check.Region: its contract is paid. -/
import Derived.Test.YtjboohjicdmidaaDoorRg
namespace Go.Proofs.YtjboohjicdmidaaDoor
open Go.RowKit Go.Am Go.Sy
set_option linter.unusedVariables false

theorem rg_e (c : Config) (d : Int) : Go.Sy.Tree.holds (entryX F ctr0 200 Tryd.f18 b18 (rgF c d) [.agg (enc4 c), .i .i64 d]) = (
∃ (s : Nat),
  d = d ∧
    c.locks = c.locks ∧
      (↑c.locks.length : Int) = (↑c.locks.length : Int) ∧
        (0 : Int) = (↑s : Int) ∧ (s ≤ c.locks.length ∧ ∀ (x : Lock), x ∈ List.take s c.locks → has d x = false) ∧ True) := by kernel_rfl
theorem rg_c (c : Config) (d : Int) (i : Nat) : Go.Sy.Tree.holds (cutVC F ctr0 200 Tryd.f18 b18 (rgF c d) 2 (rgC c d) i) = (
(decide ((↑i : Int) < (↑c.locks.length : Int)) = true →
    ((0 : Int) ≤ (↑i : Int) ∧ (↑i : Int) < (↑c.locks.length : Int)) ∧
      (decide ((cod.at (1 : Nat) c.locks (↑i : Int)).len > (0 : Int)) = true →
          (decide (d ≥ (cod.at (1 : Nat) c.locks (↑i : Int)).fr) = true →
              (decide
                      (IntKind.u64.wrap
                          (IntKind.u64.wrap d - IntKind.u64.wrap (cod.at (1 : Nat) c.locks (↑i : Int)).fr) <
                        IntKind.u64.wrap (cod.at (1 : Nat) c.locks (↑i : Int)).len) =
                    true →
                  (↑i : Int) = region c.locks d ∧ True) ∧
                (decide
                      (IntKind.u64.wrap
                          (IntKind.u64.wrap d - IntKind.u64.wrap (cod.at (1 : Nat) c.locks (↑i : Int)).fr) <
                        IntKind.u64.wrap (cod.at (1 : Nat) c.locks (↑i : Int)).len) =
                    false →
                  ∃ (s : Nat),
                    d = d ∧
                      c.locks = c.locks ∧
                        (↑c.locks.length : Int) = (↑c.locks.length : Int) ∧
                          IntKind.i64.wrap ((↑i : Int) + (1 : Int)) = (↑s : Int) ∧
                            (s ≤ c.locks.length ∧ ∀ (x : Lock), x ∈ List.take s c.locks → has d x = false) ∧
                              c.locks.length - s < c.locks.length - i ∧ True)) ∧
            (decide (d ≥ (cod.at (1 : Nat) c.locks (↑i : Int)).fr) = false →
              ∃ (s : Nat),
                d = d ∧
                  c.locks = c.locks ∧
                    (↑c.locks.length : Int) = (↑c.locks.length : Int) ∧
                      IntKind.i64.wrap ((↑i : Int) + (1 : Int)) = (↑s : Int) ∧
                        (s ≤ c.locks.length ∧ ∀ (x : Lock), x ∈ List.take s c.locks → has d x = false) ∧
                          c.locks.length - s < c.locks.length - i ∧ True)) ∧
        (decide ((cod.at (1 : Nat) c.locks (↑i : Int)).len > (0 : Int)) = false →
          ∃ (s : Nat),
            d = d ∧
              c.locks = c.locks ∧
                (↑c.locks.length : Int) = (↑c.locks.length : Int) ∧
                  IntKind.i64.wrap ((↑i : Int) + (1 : Int)) = (↑s : Int) ∧
                    (s ≤ c.locks.length ∧ ∀ (x : Lock), x ∈ List.take s c.locks → has d x = false) ∧
                      c.locks.length - s < c.locks.length - i ∧ True)) ∧
  (decide ((↑i : Int) < (↑c.locks.length : Int)) = false → (-1 : Int) = region c.locks d ∧ True)) := by kernel_rfl
theorem region_hit {ls : List Lock} {d : Int} {i : Nat} (hi : i < ls.length) (h : ∀ x ∈ ls.take i, has d x = false) (hx : has d ls[i] = true) : region ls d = i := by
  have : ls.findIdx? (has d) = some i := by
    rw [List.findIdx?_eq_some_iff_getElem]
    refine ⟨hi, hx, fun j hj => ?_⟩
    have := h ls[j] (by
      rw [List.mem_take_iff_getElem]
      exact ⟨j, by omega, rfl⟩)
    simp [this]
  simp only [region, this]
theorem region_miss {ls : List Lock} {d : Int} (h : ∀ x ∈ ls, has d x = false) : region ls d = -1 := by
  have : ls.findIdx? (has d) = none := by
    rw [List.findIdx?_eq_none_iff]
    exact h
  simp only [region, this]

theorem rg_c_ok (c : Config) (d : Int) (hp : c.locks.length ≤ 1000000) (i : Nat) (hI : (rgC c d).I i) : Go.Sy.Tree.holds (cutVC F ctr0 200 Tryd.f18 b18 (rgF c d) 2 (rgC c d) i) := by
  obtain ⟨h1, h2⟩ : i ≤ c.locks.length ∧ ∀ x ∈ c.locks.take i, has d x = false := hI
  rw [rg_c]
  refine ⟨fun h0 => ⟨⟨by omega, by simpa using h0⟩, ?_⟩, fun h0 => ⟨?_, trivial⟩⟩
  · have hi : i < c.locks.length := by simpa using h0
    have e : cod.at 1 c.locks (i : Int) = c.locks[i] := at_get (C := cod) (n := 1) hi
    rw [e]
    have next : has d c.locks[i] = false → ∃ (s : Nat), d = d ∧ c.locks = c.locks ∧ (↑c.locks.length : Int) = (↑c.locks.length : Int) ∧ IntKind.i64.wrap ((↑i : Int) + (1 : Int)) = (↑s : Int) ∧
        (s ≤ c.locks.length ∧ ∀ (x : Lock), x ∈ List.take s c.locks → has d x = false) ∧ c.locks.length - s < c.locks.length - i ∧ True :=
      fun hf => ⟨i + 1, rfl, rfl, rfl, succ64 (by omega), ⟨by omega, all_take h2 hi hf⟩, by omega, trivial⟩
    refine ⟨fun g1 => ⟨fun g2 => ⟨fun g3 => ⟨?_, trivial⟩, fun g3 => next ?_⟩, fun g2 => next ?_⟩, fun g1 => next ?_⟩
    · exact (region_hit hi h2 (by simp only [has, g1, g2, g3, Bool.and_self])).symm
    · simp only [has, g1, g2, g3, Bool.and_false]
    · simp only [has, g1, g2, Bool.false_and, Bool.and_false]
    · simp only [has, g1, Bool.false_and]
  · have hi : i = c.locks.length := by
      have := of_decide_eq_false h0
      omega
    rw [hi, List.take_length] at h2
    exact (region_miss h2).symm

theorem rg_e_ok (c : Config) (d : Int) : Go.Sy.Tree.holds (entryX F ctr0 200 Tryd.f18 b18 (rgF c d) [.agg (enc4 c), .i .i64 d]) := by
  rw [rg_e]
  exact ⟨0, rfl, rfl, rfl, rfl, ⟨Nat.zero_le _, fun x hx => by simp at hx⟩, trivial⟩

set_option maxRecDepth 10000 in
theorem rg_ok : CtrOk1 F.S 18 (mkCtr rgD) :=
  mkCtr_ok codOk noExt hookLow ctr0Ok Tryd.func18 rfl rfl rfl rgD 200 (fun x => [(2, rgC x.1 x.2.1)]) (by decide) (by decide) (by kernel_rfl) (fun _ _ => ⟨rfl, rfl⟩)
    (fun x hp => by
      obtain ⟨c, d, u⟩ := x
      exact rg_e_ok c d)
    (fun x hp p hm s hI => by
      obtain ⟨c, d, u⟩ := x
      have hm : p = (2, rgC c d) := by simpa using hm
      subst hm
      exact rg_c_ok c d hp s hI)
end Go.Proofs.YtjboohjicdmidaaDoor

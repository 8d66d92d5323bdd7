/- What is built may be: its parts, and its numbers. -/
import Derived.Test.YtjboohjicdmidaaDoorPb
namespace Go.Proofs.YtjboohjicdmidaaDoor
open Go.RowKit Go.Am Go.Sy
set_option linter.unusedVariables false
set_option linter.unusedSimpArgs false

def mostOf (k : K8) : Int := if pk k.h 4 = 1 then pk (IntKind.i64.wrap (k.h.tdiv 4)) 12 else 1073741824
def writesOf (k : K8) : Int := if pk k.e 5 > 0 then 32 else IntKind.i64.wrap (1 + pk k.e 12)
def oneOf (k : K8) : Int := IntKind.i64.wrap (1 + pk (IntKind.i64.wrap (k.a.tdiv 2)) 2)
def bldC (k : K8) (ps : List (List Instr)) : Config := ⟨IntKind.i64.wrap (1 + pk k.a 2), IntKind.i64.wrap (1 + pk k.b 2), IntKind.i64.wrap (1 + pk k.c 7), IntKind.i64.wrap (32 - IntKind.i64.wrap (pk k.d 4 * 9)), writesOf k, pk k.f 4, IntKind.i64.wrap (20 + pk k.g 60), mostOf k,
  [0, 1, 2, 3, 0, 1, 2, 3, 0], [⟨oneOf k, 0, 3⟩, ⟨IntKind.i64.wrap (3 - oneOf k), 3, 3⟩, ⟨3, 6, 3⟩], [0, 1, 2], ps⟩
theorem pk2 (x : Int) : pk x 2 = 0 ∨ pk x 2 = 1 := by
  have := pk_is x 2 (by decide) (by decide)
  omega
theorem pk3 (x : Int) : pk x 3 = 0 ∨ pk x 3 = 1 ∨ pk x 3 = 2 := by
  have := pk_is x 3 (by decide) (by decide)
  omega
theorem pk4 (x : Int) : pk x 4 = 0 ∨ pk x 4 = 1 ∨ pk x 4 = 2 ∨ pk x 4 = 3 := by
  have := pk_is x 4 (by decide) (by decide)
  omega
/-- The two locks that are within one another. -/
theorem two_locks (y z : Int) : ∃ b, IntKind.i64.wrap (IntKind.i64.wrap (pk y 2 + 1) + IntKind.i64.wrap ((IntKind.u64.wrap z).tmod (IntKind.u64.wrap (IntKind.i64.wrap (2 - pk y 2))))) = b ∧ ((pk y 2 = 0 ∧ b = 1) ∨ (pk y 2 = 0 ∧ b = 2) ∨ (pk y 2 = 1 ∧ b = 2)) := by
  refine ⟨_, rfl, ?_⟩
  rw [two_less]
  rcases pk2 y with h | h
  · rw [h]
    have e : IntKind.i64.wrap ((IntKind.u64.wrap z).tmod (2 - 0)) = pk z 2 := rfl
    rw [e]
    rcases pk2 z with g | g
    · rw [g]; exact .inl ⟨rfl, rfl⟩
    · rw [g]; exact .inr (.inl ⟨rfl, rfl⟩)
  · rw [h]
    have e : IntKind.i64.wrap ((IntKind.u64.wrap z).tmod (2 - 1)) = pk z 1 := rfl
    rw [e]
    have g := pk_is z 1 (by decide) (by decide)
    rw [show pk z 1 = 0 by omega]
    exact .inr (.inr ⟨rfl, rfl⟩)
section
variable {k : K8} {ps : List (List Instr)}
theorem piece_good (x : Int) : GoodP (bldC k ps) (pieceL x) := by
  unfold pieceL
  refine ite_P (P := GoodP (bldC k ps)) (fun _ => ?_) fun _ => ite_P (P := GoodP (bldC k ps)) (fun _ => ?_) fun _ => ite_P (P := GoodP (bldC k ps)) (fun _ => ?_) fun _ => ite_P (P := GoodP (bldC k ps)) (fun _ => ?_) fun _ => ite_P (P := GoodP (bldC k ps)) (fun _ => ?_) fun _ => ite_P (P := GoodP (bldC k ps)) (fun _ => ?_) fun _ => ite_P (P := GoodP (bldC k ps)) (fun _ => ?_) fun _ =>
    ite_P (P := GoodP (bldC k ps)) (fun _ => ?_) fun _ => ite_P (P := GoodP (bldC k ps)) (fun _ => ?_) fun _ => ite_P (P := GoodP (bldC k ps)) (fun _ => ?_) fun _ => ite_P (P := GoodP (bldC k ps)) (fun _ => ?_) fun _ => ite_P (P := GoodP (bldC k ps)) (fun _ => ?_) fun _ => ?_
  · rcases pk4 (qv x) with h | h | h | h <;> rw [h] <;> exact ⟨by kernel_rfl, fun σ => by kernel_rfl, fun tp lp => by kernel_rfl⟩
  · exact ⟨by kernel_rfl, fun σ => by kernel_rfl, fun tp lp => by kernel_rfl⟩
  · rcases pk3 (qv x) with h | h | h <;> rw [h] <;> exact ⟨by kernel_rfl, fun σ => by kernel_rfl, fun tp lp => by kernel_rfl⟩
  · rcases pk3 (qv x) with h | h | h <;> rw [h] <;> exact ⟨by kernel_rfl, fun σ => by kernel_rfl, fun tp lp => by kernel_rfl⟩
  · obtain ⟨b, e, h⟩ := two_locks (qv x) (IntKind.i64.wrap ((qv x).tdiv 2))
    rw [e]
    rcases h with ⟨h, rfl⟩ | ⟨h, rfl⟩ | ⟨h, rfl⟩ <;> rw [h] <;> exact ⟨by kernel_rfl, fun σ => by kernel_rfl, fun tp lp => by kernel_rfl⟩
  · exact ⟨by kernel_rfl, fun σ => by kernel_rfl, fun tp lp => by kernel_rfl⟩
  all_goals rcases pk3 (qv x) with h | h | h <;> rw [h] <;> exact ⟨by kernel_rfl, fun σ => by kernel_rfl, fun tp lp => by kernel_rfl⟩
theorem progGo_good (l : List Int) : ∀ (r i : Nat) (p : List Instr), GoodP (bldC k ps) p → p.length ≤ 48 → GoodP (bldC k ps) (progGo l r i p) ∧ (progGo l r i p).length ≤ 48
  | 0, i, p, h, hl => ⟨h, hl⟩
  | r + 1, i, p, h, hl => by
    rw [progGo]
    by_cases g : (p.length : Int) < 34
    · rw [if_pos g]
      refine progGo_good l r (i + 1) _ (h.append (piece_good _)) ?_
      have := piece_len (at0 l i)
      rw [List.length_append]
      omega
    · rw [if_neg g]
      exact ⟨h, hl⟩
end
end Go.Proofs.YtjboohjicdmidaaDoor

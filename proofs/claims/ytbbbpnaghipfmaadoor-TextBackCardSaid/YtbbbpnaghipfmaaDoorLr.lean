/- An instruction's line as a call in any world: out of its contract. -/
import Derived.Test.YtbbbpnaghipfmaaDoorLo
import Derived.Test.YtbbbpnaghipfmaaDoorBw
namespace Go.Proofs.YtbbbpnaghipfmaaDoor
open Go.RowKit Go.Am Go.Sy
set_option linter.unusedVariables false

def iv (x : Ins) : List AVal := [.int .i64 x.op, .int .i64 x.a, .int .i64 x.b, .int .i64 x.c, .int .i64 x.n]
def ivV (x : Ins) : List Value := [.int .i64 x.op, .int .i64 x.a, .int .i64 x.b, .int .i64 x.c, .int .i64 x.n]
theorem iv_er {E : Env} (x : Ins) : Er (C := cod) E (.agg (enc2 x)) (.agg (iv x)) := by
  refine .agg rfl ?_
  intro i u c hi hj
  rcases i with _ | _ | _ | _ | _ | i
  · cases hi; cases hj; exact .i _ _
  · cases hi; cases hj; exact .i _ _
  · cases hi; cases hj; exact .i _ _
  · cases hi; cases hj; exact .i _ _
  · cases hi; cases hj; exact .i _ _
  · cases hi
theorem line_run (x : Ins) (hn : okI x.n) : ∃ n H1, runA (S noXs) n 0 9 [.agg (iv x)] [] = some (.tup [.str (lineR x), .bool (mayB x)], H1) := by
  obtain ⟨v, H', sv, h', E', ⟨n, h1⟩, h2, h3, h4, h5, h6, h7⟩ := lnOk (Z := noXs) (away []) 0 0 [.agg (enc2 x)] [] [] (fun sv h' => .need (sv = .tup [.s (lineR x), .b (mayB x)]) .ok) [.agg (iv x)]
    (show okI x.n ∧ (_ = _) ∧ True from ⟨hn, rfl, trivial⟩) (away_sim (Nat.zero_le _)) (.cons (iv_er x) .nil)
  obtain ⟨rfl, _⟩ := h7
  refine ⟨n, H', ?_⟩
  have hv : v = .tup [.str (lineR x), .bool (mayB x)] := by
    cases h6
    rename_i ls hl he
    obtain ⟨a, as1, rfl⟩ : ∃ a as1, ls = a :: as1 := by cases ls with | nil => cases hl | cons a as1 => exact ⟨_, _, rfl⟩
    obtain ⟨b, as2, rfl⟩ : ∃ a as2, as1 = a :: as2 := by cases as1 with | nil => cases hl | cons a as2 => exact ⟨_, _, rfl⟩
    obtain rfl : as2 = [] := by cases as2 with | nil => rfl | cons => cases hl
    have e0 := he 0 _ _ rfl rfl
    have e1 := he 1 _ _ rfl rfl
    cases e0
    cases e1
    rfl
  rw [← hv]
  exact h1
theorem tr_below {c c' : Cx} {H' : Heap} (h : Tr c.pure [] c' H') : Below c.w.heap.size c.w c'.w where
  os := h.os
  tape := h.tape
  output := h.output
  size := h.size
  block := fun B hB => h.frame B hB (by rintro ⟨b, blk, base, h1, _⟩; simp at h1)
/-- In any world that has the tables: the line, and whether it may be. -/
theorem line_calls {c : Cx} {H : Heap} (hR : Rel c H) (hG : GlobOk (St (fun _ => .keep) [] noXs) c) (x : Ins) (hn : okI x.n) :
    Calls Tryd.prog 9 #[.agg (ivV x).toArray] c.w fun e w' => e = .returned (.tuple #[.string ⟨(lineR x).toArray⟩, .bool (mayB x)]) ∧ Below c.w.heap.size c.w w' := by
  obtain ⟨n, H1, h⟩ := line_run x hn
  have hv : Vs c.pure [.agg (iv x)] [.agg (ivV x).toArray] := by
    simp only [Vs, V, iv]
    exact ⟨_, _, rfl, ⟨ivV x, rfl, _, _, rfl, rfl, _, _, rfl, rfl, _, _, rfl, rfl, _, _, rfl, rfl, _, _, rfl, rfl, rfl⟩, rfl⟩
  have hg : GlobOk (S noXs) c.pure := ⟨(glob_pure hG).v, (glob_pure hG).t⟩
  have hk := (runA_ok (stOk pol told noXsOk) n 0 9 _ _ _ _ h c.pure _ (pure_rel hR) hg hv).2
  refine hk.mono ?_
  rintro e w' ⟨v, c', rfl, rfl, _, hT, _, hV⟩
  refine ⟨?_, tr_below hT⟩
  simp only [V, Vs] at hV
  obtain ⟨vs, rfl, _, _, rfl, ⟨t, rfl, ht⟩, _, _, rfl, rfl, rfl⟩ := hV
  have : t = ⟨(lineR x).toArray⟩ := by rw [← ht]
  rw [this]
end Go.Proofs.YtbbbpnaghipfmaaDoor

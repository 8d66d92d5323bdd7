/- What an error is. -/
import Derived.Test.YtjboohjicdmidaaDoorSx
namespace Go.Proofs.YtjboohjicdmidaaDoor
open Go.RowKit Go.Am Go.Sy
set_option linter.unusedVariables false

/-- Where an error was. -/
structure P where
  t : Int
  p : Int
  deriving Inhabited
/-- The error of a code; an error put into places. -/
def codeT (c : Int) : List UInt8 := (sentRows.getD (c - 1).toNat ("", 0, [])).2.2
def newV (c : Int) : AVal := .iface 135 (.eptr (c - 1).toNat [.str (codeT c)])
def ch (c : Int) : List P → AVal
  | [] => newV c
  | x :: l => .iface 70 (.ipt [.int .i64 x.t, .int .i64 x.p, ch c l])
theorem ch_nil (c : Int) : ch c [] = newV c := rfl
theorem ch_cons (c : Int) (x : P) (l : List P) : ch c (x :: l) = .iface 70 (.ipt [.int .i64 x.t, .int .i64 x.p, ch c l]) := rfl
theorem ch_is (c : Int) (l : List P) : ∃ u a, ch c l = .iface u a ∧ ∀ n0 H k, frz n0 H false (k + 2) (.iface u a) = some (.iface u a) := by
  cases l with
  | nil => exact ⟨_, _, rfl, fun n0 H k => by simp only [frz, Option.map_some]⟩
  | cons x l => exact ⟨_, _, rfl, fun n0 H k => by simp only [frz, Option.map_some]⟩
end Go.Proofs.YtjboohjicdmidaaDoor

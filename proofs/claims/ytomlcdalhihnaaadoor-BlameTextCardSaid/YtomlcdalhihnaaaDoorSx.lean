/- What the seat's runs over rows stand on; what an error is. -/
import Derived.Test.YtomlcdalhihnaaaDoorHook
import Derived.Test.YtomlcdalhihnaaaDoorCod
namespace Go.Proofs.YtomlcdalhihnaaaDoor
open Go.RowKit Go.Am Go.Sy
set_option linter.unusedVariables false

/-- How each call ends: what an error is put into is sealed; those that make memory and give it away. -/
def pol (f : FuncId) : Pol := if f == 28 then .pure else if f == 45 || f == 46 || f == 47 || f == 48 || f == 51 || f == 52 || f == 53 || f == 15 || f == 17 || f == 18 || f == 19 || f == 20 || f == 21 || f == 22 || f == 24 || f == 25 || f == 26 || f == 27 || f == 35 || f == 40 || f == 41 then .fresh else .keep
def toldL : List (FuncId × AVal) := [(16, .bool true)]
theorem told : Told toldL := by
  intro x hx
  simp only [toldL, List.mem_singleton] at hx
  subst hx
  exact ⟨rfl, pol, 5000, runF_ok (hookSim pol []) 5000 (by kernel_rfl)⟩
noncomputable def S : AStat := St pol toldL
theorem sOk : StatOk S := stOk pol told
noncomputable def F : Cf cod := ⟨S, fun f => !(f == 34 || f == 80)⟩
theorem noExt : ExtNo F.S F.noExt := by
  intro f h av
  have h : (!(f == 34 || f == 80)) = true := h
  simp only [Bool.not_eq_true', Bool.or_eq_false_iff] at h
  show extF f av = none
  unfold extF
  rw [h.1, h.2]
  rfl
theorem hookLow : HookLow F.S := sOk.low

/-- The error of a code; an error put into places. -/
def codeT (c : Int) : List UInt8 := (sentRows.getD (c - 1).toNat ("", 0, [])).2.2
def newV (c : Int) : AVal := .iface 119 (.eptr (c - 1).toNat [.str (codeT c)])
def ch (c : Int) : List P → AVal
  | [] => newV c
  | x :: l => .iface 52 (.ipt [.int .i64 x.t, .int .i64 x.p, ch c l])
theorem ch_nil (c : Int) : ch c [] = newV c := rfl
theorem ch_cons (c : Int) (x : P) (l : List P) : ch c (x :: l) = .iface 52 (.ipt [.int .i64 x.t, .int .i64 x.p, ch c l]) := rfl
/-- Its outermost place. -/
def outA (c : Int) : List P → AVal
  | [] => .nilp
  | x :: l => .ipt [.int .i64 x.t, .int .i64 x.p, ch c l]
theorem ch_is (c : Int) (l : List P) : ∃ u a, ch c l = .iface u a ∧ ∀ n0 H k, frz n0 H false (k + 2) (.iface u a) = some (.iface u a) := by
  cases l with
  | nil => exact ⟨_, _, rfl, fun n0 H k => by simp only [frz, Option.map_some]⟩
  | cons x l => exact ⟨_, _, rfl, fun n0 H k => by simp only [frz, Option.map_some]⟩
end Go.Proofs.YtomlcdalhihnaaaDoor

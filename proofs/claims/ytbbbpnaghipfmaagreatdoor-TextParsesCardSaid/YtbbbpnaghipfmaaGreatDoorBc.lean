/- What blame.Put answers; what a text is. -/
import Derived.Test.YtbbbpnaghipfmaaGreatDoorRh
namespace Go.Proofs.YtbbbpnaghipfmaaGreatDoor
open Go.RowKit Go.Am Go.Sy
set_option linter.unusedVariables false

/-- blame.Put -/
def putP : List (Pat cod) := [.lit (Int × List P) (fun y => ch y.1 y.2), .int .i64, .int .i64]
def putD : CtrD cod where
  pats := putP
  pre := fun x => True
  res := fun x => .iface 65 (.ptr 0 0)
  objs := fun (x : (Int × List P) × Int × Int × Unit) => [.cells [.i .i64 x.2.1, .i .i64 x.2.2.1, .a (ch x.1.1 x.1.2)]]
def putZ (x : (Int × List P) × Int × Int × Unit) : AVal := ch x.1.1 (⟨x.2.1, x.2.2.1⟩ :: x.1.2)
def putC : CtrD cod := ⟨putP, fun x => True, fun x => .a (putZ x), fun _ => []⟩
noncomputable def b18 : Code := Tryz.f18.body.getD .skip
noncomputable def l0 : List (FuncId × Ctr cod) := []
def putF (u : TypeId) (a : AVal) (t p : Int) : FnD cod := ⟨[], .iface 65 (.ptr 0 0), [.cells [.i .i64 t, .i .i64 p, .a (.iface u a)]]⟩

theorem ch_is (c : Int) (l : List P) : ∃ u a, ch c l = .iface u a ∧ ∀ n0 H k, frz n0 H false (k + 2) (.iface u a) = some (.iface u a) := by
  cases l with
  | nil => exact ⟨_, _, rfl, fun n0 H k => by simp only [frz, Option.map_some]⟩
  | cons x l => exact ⟨_, _, rfl, fun n0 H k => by simp only [frz, Option.map_some]⟩
/-- A text by lines, each read in some way: the instructions; the code and the line of what is wrong. -/
def parseG (rd : List UInt8 → Option Ins) : List (List UInt8) → Nat → List Ins → List Ins × Int × Int
  | [], _, q => (q, 0, 0)
  | l :: ls, i, q => if l = [] then parseG rd ls (i + 1) q else if 48 ≤ q.length then ([], 4, (i : Int) + 1) else match rd l with
    | some x => parseG rd ls (i + 1) (q ++ [x])
    | none => ([], 3, (i : Int) + 1)
def parseS (rd : List UInt8 → Option Ins) (s : List UInt8) : List Ins × Int × Int := if 20000 < s.length then ([], 4, 0) else parseG rd (splitL 10 s) 0 []
/-- How text.read reads. -/
def readO (l : List UInt8) : Option Ins := readT (splitL 32 l)
def errV (c : Int) (t : Int) : AVal := if c = 0 then .nili else ch c [⟨-1, t⟩]
structure ParS where
  k : Nat
  q : List Ins
def parseC (s : List UInt8) : CutD cod := ⟨ParS, fun x => x.k ≤ (splitL 10 s).length ∧ parseG readO ((splitL 10 s).drop x.k) x.k x.q = parseG readO (splitL 10 s) 0 [] ∧ x.q.length ≤ 48 ∧ s.length ≤ 20000, fun x => (splitL 10 s).length - x.k,
  fun x => [(4, .R 0), (15, .tl (T := T) 3 (splitL 10 s)), (16, .i .i64 ((splitL 10 s).length : Int)), (17, .i .i64 (x.k : Int))], fun x => [.rows 2 x.q true 0]⟩
def parseF (s : List UInt8) (q : List Ins) (e : AVal) : FnD cod := ⟨[(5, parseC s)], .tup [.R 0, .a e], [.rows 2 q true 0]⟩
noncomputable def b8 : Code := Tryz.f8.body.getD .skip
noncomputable def l1 : List (FuncId × Ctr cod) := [(18, mkCtr putC), (21, readCtr), (26, splitCtr)]
end Go.Proofs.YtbbbpnaghipfmaaGreatDoor

/- What an error is; the document's example: a closed run. -/
import Derived.Test.YtbbbpnaghipfmaaGreatDoorBase
import Derived.Test.YtbbbpnaghipfmaaGreatDoorCod
namespace Go.Proofs.YtbbbpnaghipfmaaGreatDoor
open Go.RowKit Go.Am Go.Sy
set_option linter.unusedVariables false

/-- The error of a code; an error put into places. -/
def codeT (c : Int) : List UInt8 := (sentRows.getD (c + 1).toNat ("", 0, [])).2.2
def newV (c : Int) : AVal := .iface 144 (.eptr (c + 1).toNat [.str (codeT c)])
def ch (c : Int) : List P → AVal
  | [] => newV c
  | x :: l => .iface 65 (.ipt [.int .i64 x.t, .int .i64 x.p, ch c l])
theorem ch_nil (c : Int) : ch c [] = newV c := rfl
theorem ch_cons (c : Int) (x : P) (l : List P) : ch c (x :: l) = .iface 65 (.ipt [.int .i64 x.t, .int .i64 x.p, ch c l]) := rfl
theorem told_run {S : AStat} {n : Nat} {f : FuncId} {a : List AVal} {v : AVal} (h : (runA S n 0 f a []).map (·.1) = some v) : ∃ H1, runA S n 0 f a [] = some (v, H1) := by
  obtain ⟨⟨a, H⟩, h1, h2⟩ := Option.map_eq_some_iff.1 h
  subst h2
  exact ⟨H, h1⟩
/-- For the closed runs: each call keeps. -/
def polT (f : FuncId) : Pol := .keep
def Ran (f : FuncId) (a : List AVal) (v : AVal) : Prop := baresA a = true ∧ v.bare = true ∧ ∃ pol n H1, runA (St pol []) n 0 f a [] = some (v, H1)
theorem ran {f : FuncId} {a : List AVal} {v : AVal} (h1 : baresA a = true) (h2 : v.bare = true) (h : (runA (St polT []) 5000 0 f a []).map (·.1) = some v) : Ran f a v := ⟨h1, h2, polT, 5000, told_run h⟩
theorem ran_told : Ran 4 [] (.bool true) := ran rfl rfl (by kernel_rfl)
/-- The document's words. -/
def wordsL : List (List UInt8) := [[], [115, 101, 116], [97, 100, 100], [115, 117, 98], [109, 117, 108], [120, 111, 114], [108, 101, 115, 115], [115, 97, 109, 101], [108, 111, 97, 100], [115, 116, 111, 114, 101], [116, 97, 107, 101], [103, 105, 118, 101], [108, 111, 103], [101, 110, 116, 101, 114], [108, 101, 97, 118, 101], [119, 97, 105, 116], [115, 105, 103, 110, 97, 108], [99, 97, 115, 116], [105, 102], [101, 108, 115, 101], [101, 110, 100], [108, 111, 111, 112], [98, 97, 99, 107]]
def wordsV : AVal := .list 1 (wordsL.map fun s => [.str s]) false
def toldL : Lits := [(4, [], .bool true)]
theorem told : Told toldL := by
  intro f a v h
  simp only [toldL, List.mem_cons, List.not_mem_nil, or_false, Prod.mk.injEq] at h
  obtain ⟨rfl, rfl, rfl⟩ := h
  exact ran_told
end Go.Proofs.YtbbbpnaghipfmaaGreatDoor

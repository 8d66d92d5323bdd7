/- What an error is; what lines are read as: closed runs. -/
import Derived.Test.YtbbbpnaghipfmaaDoorBase
import Derived.Test.YtbbbpnaghipfmaaDoorCod
namespace Go.Proofs.YtbbbpnaghipfmaaDoor
open Go.RowKit Go.Am Go.Sy
set_option linter.unusedVariables false

/-- The error of a code; an error put into places. -/
def codeT (c : Int) : List UInt8 := (sentRows.getD (c + 1).toNat ("", 0, [])).2.2
def newV (c : Int) : AVal := .iface 164 (.eptr (c + 1).toNat [.str (codeT c)])
def ch (c : Int) : List P → AVal
  | [] => newV c
  | x :: l => .iface 73 (.ipt [.int .i64 x.t, .int .i64 x.p, ch c l])
theorem ch_nil (c : Int) : ch c [] = newV c := rfl
theorem ch_cons (c : Int) (x : P) (l : List P) : ch c (x :: l) = .iface 73 (.ipt [.int .i64 x.t, .int .i64 x.p, ch c l]) := rfl
theorem ch_is (c : Int) (l : List P) : ∃ u a, ch c l = .iface u a ∧ ∀ n0 H k, frz n0 H false (k + 2) (.iface u a) = some (.iface u a) := by
  cases l with
  | nil => exact ⟨_, _, rfl, fun n0 H k => by simp only [frz, Option.map_some]⟩
  | cons x l => exact ⟨_, _, rfl, fun n0 H k => by simp only [frz, Option.map_some]⟩

/-- Lines that are instructions; lines that are none. -/
def goods : List (List UInt8 × Ins) := [([108, 111, 103, 32, 48], ⟨12, 0, 0, 0, 0⟩), ([108, 111, 103, 32, 49], ⟨12, 1, 0, 0, 0⟩), ([108, 111, 103, 32, 50], ⟨12, 2, 0, 0, 0⟩), ([108, 111, 103, 32, 51], ⟨12, 3, 0, 0, 0⟩), ([108, 101, 97, 118, 101], ⟨14, 0, 0, 0, 0⟩)]
def bads : List (List UInt8) := [[108, 111, 103], [108, 111, 103, 32, 52], [108, 111, 103, 32, 32, 49], [32, 108, 111, 103, 32, 49], [108, 111, 103, 32, 49, 32], [115, 101, 116, 32, 48, 32, 48, 48], [115, 101, 116, 32, 48, 32, 45, 48], [115, 101, 116, 32, 48, 32, 57, 50, 50, 51, 51, 55, 50, 48, 51, 54, 56, 53, 52, 55, 55, 53, 56, 48, 56], [108, 101, 97, 118, 101, 32, 48], [76, 111, 103, 32, 49], [115, 101, 116, 32, 48, 32, 43, 49], [101, 110, 116, 101, 114, 32, 49, 32, 48], [108, 111, 32, 103]]
def lines : List (List UInt8) := goods.map (·.1) ++ bads
def okS (s : List UInt8) : Bool := (goods.find? fun x => x.1 == s).isSome
def insS (s : List UInt8) : Ins := ((goods.find? fun x => x.1 == s).map (·.2)).getD ⟨0, 0, 0, 0, 0⟩
def readV (s : List UInt8) : AVal := .tup [.agg [.int .i64 (insS s).op, .int .i64 (insS s).a, .int .i64 (insS s).b, .int .i64 (insS s).c, .int .i64 (insS s).n], if okS s then .nili else newV 3]
def decL : List Int := [0, 1, 2, 3]
def decV (n : Int) : AVal := .str [48 + n.toNat.toUInt8]
def toldL : Lits := ((7 : Nat), [], .bool true) :: (lines.map (fun s => ((32 : Nat), [AVal.str s], readV s)) ++ decL.map fun n => ((15 : Nat), [AVal.int .i64 n], decV n))
theorem told_run {S : AStat} {n : Nat} {f : FuncId} {a : List AVal} {v : AVal} (h : (runA S n 0 f a []).map (·.1) = some v) : ∃ H1, runA S n 0 f a [] = some (v, H1) := by
  obtain ⟨⟨a, H⟩, h1, h2⟩ := Option.map_eq_some_iff.1 h
  subst h2
  exact ⟨H, h1⟩
/-- For the closed runs: each call keeps. -/
def polT (f : FuncId) : Pol := .keep
def Ran (f : FuncId) (a : List AVal) (v : AVal) : Prop := baresA a = true ∧ v.bare = true ∧ ∃ pol n H1, runA (St pol []) n 0 f a [] = some (v, H1)
theorem ran {f : FuncId} {a : List AVal} {v : AVal} (h1 : baresA a = true) (h2 : v.bare = true) (h : (runA (St polT []) 5000 0 f a []).map (·.1) = some v) : Ran f a v := ⟨h1, h2, polT, 5000, told_run h⟩
theorem ran_told : Ran 7 [] (.bool true) := ran rfl rfl (by kernel_rfl)
theorem ran_r0 : Ran 32 [.str [108, 111, 103, 32, 48]] (readV [108, 111, 103, 32, 48]) := ran rfl (by kernel_rfl) (by kernel_rfl)
theorem ran_r1 : Ran 32 [.str [108, 111, 103, 32, 49]] (readV [108, 111, 103, 32, 49]) := ran rfl (by kernel_rfl) (by kernel_rfl)
theorem ran_r2 : Ran 32 [.str [108, 111, 103, 32, 50]] (readV [108, 111, 103, 32, 50]) := ran rfl (by kernel_rfl) (by kernel_rfl)
theorem ran_r3 : Ran 32 [.str [108, 111, 103, 32, 51]] (readV [108, 111, 103, 32, 51]) := ran rfl (by kernel_rfl) (by kernel_rfl)
theorem ran_r4 : Ran 32 [.str [108, 101, 97, 118, 101]] (readV [108, 101, 97, 118, 101]) := ran rfl (by kernel_rfl) (by kernel_rfl)
theorem ran_r5 : Ran 32 [.str [108, 111, 103]] (readV [108, 111, 103]) := ran rfl (by kernel_rfl) (by kernel_rfl)
theorem ran_r6 : Ran 32 [.str [108, 111, 103, 32, 52]] (readV [108, 111, 103, 32, 52]) := ran rfl (by kernel_rfl) (by kernel_rfl)
theorem ran_r7 : Ran 32 [.str [108, 111, 103, 32, 32, 49]] (readV [108, 111, 103, 32, 32, 49]) := ran rfl (by kernel_rfl) (by kernel_rfl)
theorem ran_r8 : Ran 32 [.str [32, 108, 111, 103, 32, 49]] (readV [32, 108, 111, 103, 32, 49]) := ran rfl (by kernel_rfl) (by kernel_rfl)
theorem ran_r9 : Ran 32 [.str [108, 111, 103, 32, 49, 32]] (readV [108, 111, 103, 32, 49, 32]) := ran rfl (by kernel_rfl) (by kernel_rfl)
theorem ran_r10 : Ran 32 [.str [115, 101, 116, 32, 48, 32, 48, 48]] (readV [115, 101, 116, 32, 48, 32, 48, 48]) := ran rfl (by kernel_rfl) (by kernel_rfl)
theorem ran_r11 : Ran 32 [.str [115, 101, 116, 32, 48, 32, 45, 48]] (readV [115, 101, 116, 32, 48, 32, 45, 48]) := ran rfl (by kernel_rfl) (by kernel_rfl)
theorem ran_r12 : Ran 32 [.str [115, 101, 116, 32, 48, 32, 57, 50, 50, 51, 51, 55, 50, 48, 51, 54, 56, 53, 52, 55, 55, 53, 56, 48, 56]] (readV [115, 101, 116, 32, 48, 32, 57, 50, 50, 51, 51, 55, 50, 48, 51, 54, 56, 53, 52, 55, 55, 53, 56, 48, 56]) := ran rfl (by kernel_rfl) (by kernel_rfl)
theorem ran_r13 : Ran 32 [.str [108, 101, 97, 118, 101, 32, 48]] (readV [108, 101, 97, 118, 101, 32, 48]) := ran rfl (by kernel_rfl) (by kernel_rfl)
theorem ran_r14 : Ran 32 [.str [76, 111, 103, 32, 49]] (readV [76, 111, 103, 32, 49]) := ran rfl (by kernel_rfl) (by kernel_rfl)
theorem ran_r15 : Ran 32 [.str [115, 101, 116, 32, 48, 32, 43, 49]] (readV [115, 101, 116, 32, 48, 32, 43, 49]) := ran rfl (by kernel_rfl) (by kernel_rfl)
theorem ran_r16 : Ran 32 [.str [101, 110, 116, 101, 114, 32, 49, 32, 48]] (readV [101, 110, 116, 101, 114, 32, 49, 32, 48]) := ran rfl (by kernel_rfl) (by kernel_rfl)
theorem ran_r17 : Ran 32 [.str [108, 111, 32, 103]] (readV [108, 111, 32, 103]) := ran rfl (by kernel_rfl) (by kernel_rfl)
theorem ran_d0 : Ran 15 [.int .i64 0] (decV 0) := ran rfl (by kernel_rfl) (by kernel_rfl)
theorem ran_d1 : Ran 15 [.int .i64 1] (decV 1) := ran rfl (by kernel_rfl) (by kernel_rfl)
theorem ran_d2 : Ran 15 [.int .i64 2] (decV 2) := ran rfl (by kernel_rfl) (by kernel_rfl)
theorem ran_d3 : Ran 15 [.int .i64 3] (decV 3) := ran rfl (by kernel_rfl) (by kernel_rfl)
theorem told : Told toldL := by
  intro f a v h
  simp only [toldL, lines, goods, bads, decL, List.map_cons, List.map_nil, List.cons_append, List.nil_append, List.mem_cons, List.not_mem_nil, or_false, Prod.mk.injEq] at h
  rcases h with ⟨rfl, rfl, rfl⟩ | ⟨rfl, rfl, rfl⟩ | ⟨rfl, rfl, rfl⟩ | ⟨rfl, rfl, rfl⟩ | ⟨rfl, rfl, rfl⟩ | ⟨rfl, rfl, rfl⟩ | ⟨rfl, rfl, rfl⟩ | ⟨rfl, rfl, rfl⟩ | ⟨rfl, rfl, rfl⟩ | ⟨rfl, rfl, rfl⟩ | ⟨rfl, rfl, rfl⟩ | ⟨rfl, rfl, rfl⟩ | ⟨rfl, rfl, rfl⟩ | ⟨rfl, rfl, rfl⟩ | ⟨rfl, rfl, rfl⟩ | ⟨rfl, rfl, rfl⟩ | ⟨rfl, rfl, rfl⟩ | ⟨rfl, rfl, rfl⟩ | ⟨rfl, rfl, rfl⟩ | ⟨rfl, rfl, rfl⟩ | ⟨rfl, rfl, rfl⟩ | ⟨rfl, rfl, rfl⟩ | ⟨rfl, rfl, rfl⟩
  · exact ran_told
  · exact ran_r0
  · exact ran_r1
  · exact ran_r2
  · exact ran_r3
  · exact ran_r4
  · exact ran_r5
  · exact ran_r6
  · exact ran_r7
  · exact ran_r8
  · exact ran_r9
  · exact ran_r10
  · exact ran_r11
  · exact ran_r12
  · exact ran_r13
  · exact ran_r14
  · exact ran_r15
  · exact ran_r16
  · exact ran_r17
  · exact ran_d0
  · exact ran_d1
  · exact ran_d2
  · exact ran_d3

end Go.Proofs.YtbbbpnaghipfmaaDoor

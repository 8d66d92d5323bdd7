/- What numbers are in words. -/
import Derived.Test.YtlninpcoolakbaaGreatDoorSx
namespace Go.Proofs.YtlninpcoolakbaaGreatDoor
open Go.RowKit Go.Am Go.Sy
set_option linter.unusedVariables false
def digits (u : Nat) : List UInt8 := if h : u = 0 then [] else digits (u / 10) ++ [UInt8.ofNat (48 + u % 10)]
decreasing_by omega
def mag (n : Int) : Nat := if n < 0 then (IntKind.u64.wrap (0 - IntKind.u64.wrap n)).toNat else (IntKind.u64.wrap n).toNat
def decN (u : Nat) : List UInt8 := if u = 0 then [48] else digits u
def decS (n : Int) : List UInt8 := if n < 0 then 45 :: decN (mag n) else decN (mag n)
structure DcS where
  u : Nat
  s : List UInt8
def decD : CtrD cod where
  pats := [.int .i64]
  pre := fun (x : Int × Unit) => True
  res := fun (x : Int × Unit) => .s (decS x.1)
  objs := fun x => []
def decC (n : Int) : CutD cod := ⟨DcS, fun s => s.u < 18446744073709551616 ∧ s.s.length + (digits s.u).length ≤ 20 ∧ ((s.s = [] ∧ s.u = mag n) ∨ (s.s ≠ [] ∧ digits s.u ++ s.s = decN (mag n))), fun s => if s.s = [] then 1000000000000000000000 else s.u,
  fun s => [(0, .i .i64 n), (3, .i .u64 s.u), (4, .s s.s)], fun _ => []⟩
def decF (n : Int) : FnD cod := ⟨[(4, decC n)], .s (decS n), []⟩
noncomputable def b23 : Code := Tryz.f23.body.getD .skip
end Go.Proofs.YtlninpcoolakbaaGreatDoor

/- text.Parse at a text whose lines were printed, and Same: what is answered. -/
import Derived.Test.YtbbbpnaghipfmaaDoorRh
import Derived.Test.YtbbbpnaghipfmaaDoorAv
namespace Go.Proofs.YtbbbpnaghipfmaaDoor
open Go.RowKit Go.Am Go.Sy
set_option linter.unusedVariables false
variable {Z : Xs}

/-- Its lines, empty ones aside, are those of a program. -/
def textOf (p : List Ins) (s : List UInt8) : Prop := (splitL 10 s).filter (fun l => !(l == [])) = p.map lineS
def goodP (p : List Ins) : Prop := (∀ i ∈ p, Good i) ∧ p.length ≤ 48
def paD (p : List Ins) : CtrD cod where
  pats := [.str]
  pre := fun (x : List UInt8 × Unit) => goodP p ∧ x.1.length ≤ 20000 ∧ textOf p x.1
  res := fun (x : List UInt8 × Unit) => .tup [.R 0, .a .nili]
  objs := fun (x : List UInt8 × Unit) => [.rows 2 p true 0]
structure PaS where
  k : Nat
  j : Nat
def paC (p : List Ins) (s : List UInt8) : CutD cod := ⟨PaS, fun x => x.k ≤ (splitL 10 s).length ∧ x.j ≤ p.length ∧ ((splitL 10 s).drop x.k).filter (fun l => !(l == [])) = (p.drop x.j).map lineS, fun x => (splitL 10 s).length - x.k,
  fun x => [(4, .R 0), (15, .tl (T := T) 3 (splitL 10 s)), (16, .i .i64 ((splitL 10 s).length : Int)), (17, .i .i64 (x.k : Int))], fun x => [.rows 2 (p.take x.j) true 0]⟩
def paF (p : List Ins) (s : List UInt8) : FnD cod := ⟨[(5, paC p s)], .tup [.R 0, .a .nili], [.rows 2 p true 0]⟩
noncomputable def b13 : Code := Tryd.f13.body.getD .skip
noncomputable def l13 : List (FuncId × Ctr cod) := [(32, readCtr), (42, splitCtr)]

/-! ### Same, of one program twice -/
def smD : CtrD cod where
  pats := [.tl 2, .tl 2]
  pre := fun (x : List Ins × List Ins × Unit) => x.2.1 = x.1 ∧ x.1.length ≤ 1000
  res := fun x => .b true
  objs := fun x => []
def smC (p : List Ins) : CutD cod := ⟨Nat, fun k => k ≤ p.length, fun k => p.length - k,
  fun k => [(0, .tl (T := T) 2 p), (1, .tl (T := T) 2 p), (5, .i .i64 (k : Int))], fun k => []⟩
def smF (p : List Ins) : FnD cod := ⟨[(4, smC p)], .b true, []⟩
noncomputable def b14 : Code := Tryd.f14.body.getD .skip

/-! ### The law -/
def gapB (c : UInt8) : List UInt8 := if c = 10 then [10, 10] else [c]
def gapS (s : List UInt8) : List UInt8 := 10 :: s.flatMap gapB
structure BkS where
  k : Nat
def cleanL (l : List Rw) : Prop := l.length ≤ 40 ∧ ∀ r ∈ l, r.raw = false
def bkC4 (l : List Rw) (gaps : Bool) : CutD cod := ⟨Nat, fun k => k ≤ l.length ∧ l.length ≤ 40 ∧ ∀ r ∈ l.take k, r.raw = false, fun k => 100000 + (l.length - k),
  fun k => [(0, .tl (T := T) 5 l), (1, .b gaps), (5, .i .i64 (k : Int))], fun k => []⟩
def bkC15 (l : List Rw) : CutD cod := ⟨Nat, fun k => k ≤ (printR (progL l)).1.length ∧ cleanL l, fun k => (printR (progL l)).1.length - k,
  fun k => [(6, .tl (T := T) 2 (progL l)), (7, .s (printR (progL l)).1), (9, .s (gapS ((printR (progL l)).1.take k))), (10, .i .i64 (k : Int))], fun k => []⟩
def bkF (l : List Rw) (gaps : Bool) : FnD cod := ⟨[(4, bkC4 l gaps), (15, bkC15 l)], .b true, []⟩
noncomputable def b4 : Code := Tryd.f4.body.getD .skip
noncomputable def l4 (l : List Rw) : List (FuncId × Ctr cod) := [(7, tellCtr), (8, mkCtrL (C := cod) pgP (fun (x : List Rw × Unit) => rowsOk x.1) 2 (fun (x : List Rw × Unit) => progL x.1)), (11, printCtr),
  (13, mkCtrT (C := cod) [.str] (paD (progL l)).pre 2 (fun _ => progL l) .nili), (14, mkCtr smD)]
end Go.Proofs.YtbbbpnaghipfmaaDoor

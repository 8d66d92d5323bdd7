/- TextAsks: what its loops keep; programs out of rows; the document's own Print. -/
import Derived.Test.YtbbbpnaghipfmaaDoorPh
namespace Go.Proofs.YtbbbpnaghipfmaaDoor
open Go.RowKit Go.Am Go.Sy
set_option linter.unusedVariables false
variable {Z : Xs}

/-! ### Programs out of rows -/
def rowI (r : Rw) : Ins := insF ⟨r.k0, r.k1, r.k2, r.k3⟩ r.n r.raw
def progL (l : List Rw) : List Ins := l.map rowI
def pgP : List (Pat cod) := [.tl 5]
def rowsOk (l : List Rw) : Prop := l.length ≤ 1000
def pgC (l : List Rw) : CutD cod := ⟨Nat, fun k => k ≤ l.length, fun k => l.length - k,
  fun k => [(0, .tl (T := T) 5 l), (3, .R 0), (4, .i .i64 (k : Int))], fun k => [.rows 2 (progL (l.take k)) true 0]⟩
noncomputable def b8 : Code := Tryd.f8.body.getD .skip
noncomputable def l8 : List (FuncId × Ctr cod) := [(18, mkCtr inD)]

/-! ### The document's Print -/
def insOk (p : List Ins) : Prop := p.length ≤ 1000 ∧ ∀ x ∈ p, okI x.n
def rpD : CtrD cod where
  pats := [.tl 2]
  pre := fun (x : List Ins × Unit) => insOk x.1
  res := fun (x : List Ins × Unit) => .tup [.s (printR x.1).1, .b (printR x.1).2]
  objs := fun x => []
structure RpS where
  k : Nat
  acc : List UInt8
def rpC (p : List Ins) : CutD cod := ⟨RpS, fun s => s.k ≤ p.length ∧ printGo (p.drop s.k) s.acc = printR p ∧ s.acc.length ≤ 201 * s.k, fun s => p.length - s.k,
  fun s => [(0, .tl (T := T) 2 p), (4, .s s.acc), (5, .i .i64 (s.k : Int))], fun s => []⟩
def rpF (p : List Ins) : FnD cod := ⟨[(3, rpC p)], .tup [.s (printR p).1, .b (printR p).2], []⟩
noncomputable def b12 : Code := Tryd.f12.body.getD .skip
noncomputable def l12 : List (FuncId × Ctr cod) := [(10, mkCtr lnD)]

/-! ### The law -/
noncomputable def tellCtr : Ctr cod := fun _ args h K => match args with
  | [] => K (.a (.bool true)) h
  | _ => .stuck "told"
theorem tellOk : CtrOk1 (F Z).S 7 tellCtr := by
  intro E lo wlo args h H K av hh hS hA
  unfold tellCtr at hh
  split at hh
  · obtain rfl := hA.inv_nil
    exact quiet_out hook7 rfl hS (.a _) hh
  · exact (stuck_no hh).elim
def akC (l : List Rw) : CutD cod := ⟨Nat, fun k => k ≤ (progL l).length ∧ insOk (progL l), fun k => (progL l).length - k,
  fun k => [(3, .tl (T := T) 2 (progL l)), (4, .i .i64 (k : Int))], fun _ => []⟩
def akF (l : List Rw) : FnD cod := ⟨[(5, akC l)], .b true, []⟩
noncomputable def b3 : Code := Tryd.f3.body.getD .skip
noncomputable def l3 : List (FuncId × Ctr cod) := [(7, tellCtr), (8, mkCtrL (C := cod) pgP (fun (x : List Rw × Unit) => rowsOk x.1) 2 (fun (x : List Rw × Unit) => progL x.1)), (9, mkCtr lnD), (10, mkCtr lnD), (11, printCtr), (12, mkCtr rpD)]
end Go.Proofs.YtbbbpnaghipfmaaDoor

/- A text is read alike on both sides; the law's loop: what is kept. -/
import Derived.Test.YtbbbpnaghipfmaaGreatDoorAs
namespace Go.Proofs.YtbbbpnaghipfmaaGreatDoor
open Go.RowKit Go.Am Go.Sy
set_option linter.unusedVariables false

/-! ### Same, of one program twice -/
def smD : CtrD cod where
  pats := [.tl 2, .tl 2]
  pre := fun (x : List Ins × List Ins × Unit) => x.2.1 = x.1 ∧ x.1.length ≤ 1000
  res := fun x => .b true
  objs := fun x => []
def smC (p : List Ins) : CutD cod := ⟨Nat, fun k => k ≤ p.length, fun k => p.length - k,
  fun k => [(0, .tl (T := T) 2 p), (1, .tl (T := T) 2 p), (5, .i .i64 (k : Int))], fun k => []⟩
def smF (p : List Ins) : FnD cod := ⟨[(4, smC p)], .b true, []⟩
noncomputable def b14 : Code := Tryz.f14.body.getD .skip

/-! ### Code, of what Parse answers -/
def cdD : CtrD cod where
  pats := [.lit (Int × Int) (fun y => ch y.1 [⟨-1, y.2⟩])]
  pre := fun (x : (Int × Int) × Unit) => x.1.1 = 3 ∨ x.1.1 = 4
  res := fun (x : (Int × Int) × Unit) => .i .i64 x.1.1
  objs := fun x => []
noncomputable def b16 : Code := Tryz.f16.body.getD .skip
/-! ### parsed -/
def pdD : CtrD cod where
  pats := [.str]
  pre := fun (x : List UInt8 × Unit) => x.1.length < 4294967281
  res := fun x => .b true
  objs := fun x => []
noncomputable def b7 : Code := Tryz.f7.body.getD .skip
noncomputable def l7 : List (FuncId × Ctr cod) := [(8, parCtr), (13, refParseCtr), (14, mkCtr smD), (16, mkCtr cdD), (34, asCtr)]

/-! ### The law -/
noncomputable def tellCtr : Ctr cod := fun _ args h K => match args with
  | [] => K (.a (.bool true)) h
  | _ => .stuck "told"
theorem tellOk : CtrOk1 F.S 4 tellCtr := by
  intro E lo wlo args h H K av hh hS hA
  unfold tellCtr at hh
  split at hh
  · obtain rfl := hA.inv_nil
    exact quiet_out hook7 rfl hS (.a _) hh
  · exact (stuck_no hh).elim
/-- A row's instruction; its line's bytes. -/
def insK (l : List Rw) (k : Int) : Ins := insF (K4.mk (at5 l k).k0 (at5 l k).k1 (at5 l k).k2 (at5 l k).k3) (at5 l k).n false
def bytK (l : List Rw) (k : Int) : List (T 4) := List.map (Sy.byteOf cod 4) (lineR (insK l k))
def tpC (s : List UInt8) (l : List Rw) (t x : Int) : CutD cod := ⟨Nat, fun k => k ≤ l.length ∧ l.length ≤ 30 ∧ s.length ≤ 500, fun k => l.length - k,
  fun k => [(0, .s s), (1, .tl (T := T) 5 l), (2, .i .i64 t), (3, .i .u8 x), (9, .i .i64 (k : Int))], fun _ => []⟩
def tpF (s : List UInt8) (l : List Rw) (t x : Int) : FnD cod := ⟨[(4, tpC s l t x)], .b true, []⟩
noncomputable def b3 : Code := Tryz.f3.body.getD .skip
noncomputable def l3 : List (FuncId × Ctr cod) := [(4, tellCtr), (5, mkCtr lnD), (6, mkCtr inD), (7, mkCtr pdD)]
end Go.Proofs.YtbbbpnaghipfmaaGreatDoor

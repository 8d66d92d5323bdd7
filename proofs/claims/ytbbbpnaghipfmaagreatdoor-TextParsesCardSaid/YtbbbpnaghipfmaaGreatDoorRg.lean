/- text.verb and text.read at any line: what is answered. Printed by a program (gen_rh.py). -/
import Derived.Test.YtbbbpnaghipfmaaGreatDoorNo
namespace Go.Proofs.YtbbbpnaghipfmaaGreatDoor
open Go.RowKit Go.Am Go.Sy
set_option linter.unusedVariables false
set_option linter.unusedSimpArgs false

theorem hook26 : F.S.hook 26 = some splitHook := by kernel_rfl
noncomputable def splitCtr : Ctr cod := fun _ args h K => match args with
  | [x, y, z, w] => match strOf x, strOf y, intOf z, intOf w with
    | some s, some [c], some (k, n), some (k', m) => if k = .i64 ∧ n = 0 ∧ k' = .i64 ∧ m = -1 then .need (s.length < 4294967281) (K (.tl (T := T) 3 (splitL c s)) h) else .stuck "split: how"
    | _, _, _, _ => .stuck "split: what"
  | _ => .stuck "split"
theorem splitOk : CtrOk1 F.S 26 splitCtr := by
  intro E lo wlo args h H K av hh hS hA
  unfold splitCtr at hh
  split at hh
  · rename_i x y z w
    obtain ⟨a0, as1, rfl, h1, hA1⟩ := hA.inv_cons
    obtain ⟨a1, as2, rfl, h2, hA2⟩ := hA1.inv_cons
    obtain ⟨a2, as3, rfl, h3, hA3⟩ := hA2.inv_cons
    obtain ⟨a3, as4, rfl, h4, hA4⟩ := hA3.inv_cons
    obtain rfl := hA4.inv_nil
    split at hh
    · rename_i s c k n k' m e1 e2 e3 e4
      obtain rfl := strOf_ok h1 e1
      obtain rfl := strOf_ok h2 e2
      obtain rfl := intOf_ok h3 e3
      obtain rfl := intOf_ok h4 e4
      split at hh
      · rename_i e
        obtain ⟨rfl, rfl, rfl, rfl⟩ := e
        obtain ⟨hk, hh⟩ := hh
        refine quiet_out hook26 (v := .list 1 ((splitL c s).map fun x => [.str x]) true) ?_ hS (strs_er _ _) hh
        simp only [splitHook, hk, and_self, if_true]
      · exact (stuck_no hh).elim
    · exact (stuck_no hh).elim
  · exact (stuck_no hh).elim

/-- Which of its fields stand behind an instruction's word. -/
def fieldsOf (op : Int) : List UInt8 :=
  if op = 1 then [97, 110] else if 2 ≤ op ∧ op ≤ 7 then [97, 98, 99] else if op = 8 ∨ op = 9 then [97, 98, 110] else if op = 10 ∨ op = 11 then [98, 110]
  else if op = 12 ∨ op = 13 ∨ op = 15 ∨ op = 16 ∨ op = 17 ∨ op = 18 ∨ op = 21 then [97] else []
theorem op_cases {op : Int} (h1 : 1 ≤ op) (h2 : op ≤ 22) : op = 1 ∨ op = 2 ∨ op = 3 ∨ op = 4 ∨ op = 5 ∨ op = 6 ∨ op = 7 ∨ op = 8 ∨ op = 9 ∨ op = 10 ∨ op = 11 ∨ op = 12 ∨ op = 13 ∨ op = 14 ∨ op = 15 ∨ op = 16 ∨ op = 17 ∨ op = 18 ∨ op = 19 ∨ op = 20 ∨ op = 21 ∨ op = 22 := by omega
def vbD : CtrD cod where
  pats := [.int .i64, .int .i64]
  pre := fun (x : Int × Int × Unit) => 1 ≤ x.1 ∧ x.1 ≤ 22
  res := fun (x : Int × Int × Unit) => .tup [.s (wordB x.1 x.2.1), .s (fieldsOf x.1)]
  objs := fun x => []
noncomputable def b27 : Code := Tryz.f27.body.getD .skip

/-! ### read -/
def insS (i : Ins) : SV cod.T := .agg [.i .i64 i.op, .i .i64 i.a, .i .i64 i.b, .i .i64 i.c, .i .i64 i.n]
def setF (c : UInt8) (n : Int) (i : Ins) : Ins := if c = 97 then ⟨i.op, n, i.b, i.c, i.n⟩ else if c = 98 then ⟨i.op, i.a, n, i.c, i.n⟩ else if c = 99 then ⟨i.op, i.a, i.b, n, i.n⟩ else ⟨i.op, i.a, i.b, i.c, n⟩
/-- Numbers into an instruction's fields. -/
def fillT : List UInt8 → List (List UInt8) → Ins → Option Ins
  | [], _, i => some i
  | c :: f, w :: ws, i => if (!(numT w).2) || (!(c == 110) && (decide ((numT w).1 < 0) || decide ((numT w).1 > 9))) then none else fillT f ws (setF c (numT w).1 i)
  | _ :: _, [], _ => none
def tryT (ws : List (List UInt8)) (k b : Int) : Option Ins :=
  if !(wordB k b == at3 ws 0) || !((fieldsOf k).length + 1 == ws.length) then none
  else match fillT (fieldsOf k) (ws.drop 1) ⟨k, 0, if k = 13 then b else 0, 0, 0⟩ with
    | some i => if mayB i = true then some i else none
    | none => none
def readGo (ws : List (List UInt8)) : Nat → Nat → Nat → Option Ins
  | 0, _, _ => none
  | f + 1, k, b => if b ≤ 1 then (match tryT ws k b with
      | some i => some i
      | none => readGo ws f k (b + 1)) else if k + 1 ≤ 22 then readGo ws f (k + 1) 0 else none
def fuelOf (k b : Nat) : Nat := (22 - k) * 3 + (3 - b)
def readT (ws : List (List UInt8)) : Option Ins := readGo ws 66 1 0
def zeros : List (SV cod.T) := [.any, .any, .any, .any, .any]
structure RdS where
  k : Nat
  b : Nat
def rdI (s : List UInt8) (x : RdS) : Prop := 1 ≤ x.k ∧ x.k ≤ 22 ∧ x.b ≤ 2 ∧ readGo (splitL 32 s) (fuelOf x.k x.b) x.k x.b = readT (splitL 32 s)
def rdJ (s : List UInt8) (f : List UInt8) (x : RdS) : Prop := rdI s x ∧ x.b ≤ 1 ∧ fieldsOf x.k = f ∧ wordB x.k x.b = at3 (splitL 32 s) 0 ∧ f.length + 1 = (splitL 32 s).length
def rdC6 (s : List UInt8) : CutD cod := ⟨RdS, fun x => rdI s x, fun x => (23 - x.k) * 10 + (2 - x.b) * 2 + 1,
  fun x => [(2, .ptr 0 0), (4, .tl (T := T) 3 (splitL 32 s)), (5, .i .i64 (x.k : Int)), (6, .i .i64 (x.b : Int))], fun x => [.cells zeros]⟩
def rdC10 (s : List UInt8) (f : List UInt8) : CutD cod := ⟨RdS, fun x => rdJ s f x, fun x => (23 - x.k) * 10 + (2 - x.b) * 2,
  fun x => [(2, .ptr 0 0), (4, .tl (T := T) 3 (splitL 32 s)), (5, .i .i64 (x.k : Int)), (6, .i .i64 (x.b : Int)), (8, .a (.str f))], fun x => [.cells zeros]⟩
def rdCuts (s : List UInt8) : List (Nat × CutD cod) := [(6, rdC6 s), (10, rdC10 s [97, 110]), (10, rdC10 s [97, 98, 99]), (10, rdC10 s [97, 98, 110]), (10, rdC10 s [98, 110]), (10, rdC10 s [97]), (10, rdC10 s [])]
/-- What is read of a line; why nothing is. -/
def ReadIs (s : List UInt8) (i : Ins) (e : AVal) : Prop := (readT (splitL 32 s) = some i ∧ e = .nili) ∨ (readT (splitL 32 s) = none ∧ i = ⟨0, 0, 0, 0, 0⟩ ∧ e = newV 3)
def rdD (s : List UInt8) (i : Ins) (e : AVal) : CtrD cod where
  pats := [.str]
  pre := fun (x : List UInt8 × Unit) => x.1 = s
  res := fun (x : List UInt8 × Unit) => .tup [insS i, .a e]
  objs := fun x => []
def rdF (s : List UInt8) (i : Ins) (e : AVal) : FnD cod := ⟨rdCuts s, .tup [insS i, .a e], []⟩
noncomputable def b21 : Code := Tryz.f21.body.getD .skip
noncomputable def l21 : List (FuncId × Ctr cod) := [(29, mkCtr mayD), (27, mkCtr vbD), (26, splitCtr), (39, mkCtr nmD)]
end Go.Proofs.YtbbbpnaghipfmaaGreatDoor

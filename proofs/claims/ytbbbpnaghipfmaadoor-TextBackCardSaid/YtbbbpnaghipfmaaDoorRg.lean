/- text.read at a line that was printed: what is answered. -/
import Derived.Test.YtbbbpnaghipfmaaDoorRp
import Derived.Test.YtbbbpnaghipfmaaDoorPw
namespace Go.Proofs.YtbbbpnaghipfmaaDoor
open Go.RowKit Go.Am Go.Sy
set_option linter.unusedVariables false
variable {Z : Xs}

theorem hook42 : (F Z).S.hook 42 = some splitHook := by kernel_rfl
noncomputable def splitCtr : Ctr cod := fun _ args h K => match args with
  | [x, y, z, w] => match strOf x, strOf y, intOf z, intOf w with
    | some s, some [c], some (k, n), some (k', m) => if k = .i64 ∧ n = 0 ∧ k' = .i64 ∧ m = -1 then .need (s.length < 4294967281) (K (.tl (T := T) 3 (splitL c s)) h) else .stuck "split: how"
    | _, _, _, _ => .stuck "split: what"
  | _ => .stuck "split"
theorem splitOk : CtrOk1 (F Z).S 42 splitCtr := by
  intro E lo wlo args h H K av hh hS hA
  unfold splitCtr at hh
  split at hh
  · rename_i x y z w
    obtain ⟨a0, as1, rfl, h1, hA1⟩ := hA.inv_cons
    obtain ⟨a1, as2, rfl, h2, hA2⟩ := hA1.inv_cons
    obtain ⟨a2, as3, rfl, h3, hA3⟩ := hA2.inv_cons
    obtain ⟨a3, as4, rfl, h4, hA4⟩ := hA3.inv_cons
    obtain rfl := hA4.inv_nil
    split at hh
    · rename_i s c k n k' m e1 e2 e3 e4
      obtain rfl := strOf_ok h1 e1
      obtain rfl := strOf_ok h2 e2
      obtain rfl := intOf_ok h3 e3
      obtain rfl := intOf_ok h4 e4
      split at hh
      · rename_i e
        obtain ⟨rfl, rfl, rfl, rfl⟩ := e
        obtain ⟨hk, hh⟩ := hh
        refine quiet_out hook42 (v := .list 1 ((splitL c s).map fun x => [.str x]) true) ?_ hS (strs_er _ _) hh
        simp only [splitHook, hk, and_self, if_true]
      · exact (stuck_no hh).elim
    · exact (stuck_no hh).elim
  · exact (stuck_no hh).elim

/-! ### verb -/
def vbD : CtrD cod where
  pats := [.int .i64, .int .i64]
  pre := fun (x : Int × Int × Unit) => 1 ≤ x.1 ∧ x.1 ≤ 22
  res := fun (x : Int × Int × Unit) => .tup [.s (wordB x.1 x.2.1), .s (fieldsOf x.1)]
  objs := fun x => []
noncomputable def b20 : Code := Tryd.f20.body.getD .skip

/-! ### read -/
def insS (i : Ins) : SV cod.T := .agg [.i .i64 i.op, .i .i64 i.a, .i .i64 i.b, .i .i64 i.c, .i .i64 i.n]
def zeros : List (SV cod.T) := [.any, .any, .any, .any, .any]
structure RdS where
  k : Nat
  b : Nat
def bOf (i : Ins) : Int := if i.op = 13 then i.b else 0
def rdC6 (i : Ins) : CutD cod := ⟨RdS, fun s => 1 ≤ s.k ∧ (s.k : Int) ≤ i.op ∧ s.b ≤ 2 ∧ ((s.k : Int) = i.op → (s.b : Int) ≤ bOf i), fun s => (23 - s.k) * 10 + (2 - s.b) * 2 + 1,
  fun s => [(2, .ptr 0 0), (4, .tl (T := T) 3 (wordsOf i)), (5, .i .i64 (s.k : Int)), (6, .i .i64 (s.b : Int))], fun s => [.cells zeros]⟩
def rdC10 (i : Ins) (f : List UInt8) : CutD cod := ⟨RdS, fun s => (s.k : Int) = i.op ∧ (s.b : Int) = bOf i ∧ fieldsOf i.op = f, fun s => (23 - s.k) * 10 + (2 - s.b) * 2,
  fun s => [(2, .ptr 0 0), (4, .tl (T := T) 3 (wordsOf i)), (5, .i .i64 (s.k : Int)), (6, .i .i64 (s.b : Int)), (8, .a (.str f))], fun s => [.cells zeros]⟩
def rdCuts (i : Ins) : List (Nat × CutD cod) := [(6, rdC6 i), (10, rdC10 i [97, 110]), (10, rdC10 i [97, 98, 99]), (10, rdC10 i [97, 98, 110]), (10, rdC10 i [98, 110]), (10, rdC10 i [97]), (10, rdC10 i [])]
def rdD (i : Ins) : CtrD cod where
  pats := [.str]
  pre := fun (x : List UInt8 × Unit) => x.1 = lineS i
  res := fun (x : List UInt8 × Unit) => .tup [insS i, .a .nili]
  objs := fun x => []
def rdF (i : Ins) : FnD cod := ⟨rdCuts i, .tup [insS i, .a .nili], []⟩
noncomputable def b32 : Code := Tryd.f32.body.getD .skip
noncomputable def l32 : List (FuncId × Ctr cod) := [(19, mkCtr mayD), (20, mkCtr vbD), (42, splitCtr), (55, mkCtr nmD)]
end Go.Proofs.YtbbbpnaghipfmaaDoor

/- text.number at a numeral: what is answered. -/
import Derived.Test.YtbbbpnaghipfmaaDoorNp
import Derived.Test.YtbbbpnaghipfmaaDoorLo
namespace Go.Proofs.YtbbbpnaghipfmaaDoor
open Go.RowKit Go.Am Go.Sy
set_option linter.unusedVariables false
variable {Z : Xs}

theorem hook70 : (F Z).S.hook 70 = some (parseHook 155) := by kernel_rfl
/-- strconv.ParseInt at base 10, where it is a number. -/
noncomputable def pintCtr : Ctr cod := fun _ args h K => match args with
  | [x, y, z] => match strOf x, intOf y, intOf z with
    | some s, some (k, m), some (k', n) => if k = .i64 ∧ m = 10 ∧ k' = .i64 ∧ n = 64 then .ex Int fun v => .need (s.length ≤ 1000000 ∧ Lib.parseIntB 64 s = .ok v) (K (.tup [.i .i64 v, .a .nili]) h) else .stuck "parse: how"
    | _, _, _ => .stuck "parse: what"
  | _ => .stuck "parse"
theorem ers2 {E : Env} {x y : SV cod.T} {a b : AVal} (h1 : Er E x a) (h2 : Er E y b) : Er E (.tup [x, y]) (.tup [a, b]) := by
  refine .tup rfl ?_
  intro i u c hi hj
  rcases i with _ | _ | i
  · cases hi; cases hj; exact h1
  · cases hi; cases hj; exact h2
  · simp at hi
theorem pintOk : CtrOk1 (F Z).S 70 pintCtr := by
  intro E lo wlo args h H K av hh hS hA
  unfold pintCtr at hh
  split at hh
  · rename_i x y z
    obtain ⟨a0, as1, rfl, h1, hA1⟩ := hA.inv_cons
    obtain ⟨a1, as2, rfl, h2, hA2⟩ := hA1.inv_cons
    obtain ⟨a2, as3, rfl, h3, hA3⟩ := hA2.inv_cons
    obtain rfl := hA3.inv_nil
    split at hh
    · rename_i s k m k' n e1 e2 e3
      obtain rfl := strOf_ok h1 e1
      obtain rfl := intOf_ok h2 e2
      obtain rfl := intOf_ok h3 e3
      split at hh
      · rename_i e
        obtain ⟨rfl, rfl, rfl, rfl⟩ := e
        obtain ⟨v, ⟨hl, hp⟩, hh⟩ := hh
        refine quiet_out hook70 (v := .tup [.int .i64 v, .nili]) ?_ hS (ers2 (.i _ _) (.a _)) hh
        simp only [parseHook, hl, hp, and_self, if_true]
      · exact (stuck_no hh).elim
    · exact (stuck_no hh).elim
  · exact (stuck_no hh).elim
def numV (s : List UInt8) : Int := match Lib.parseIntB 64 s with
  | .ok v => v
  | _ => 0
theorem numV_dec {n : Int} (h : okI n) : numV (decS n) = n := by rw [numV, parse_dec h]
def isNum (s : List UInt8) : Prop := ∃ n, okI n ∧ s = decS n
def nmD : CtrD cod where
  pats := [.str]
  pre := fun (x : List UInt8 × Unit) => isNum x.1
  res := fun (x : List UInt8 × Unit) => .tup [.i .i64 (numV x.1), .a (.bool true)]
  objs := fun x => []
def nmC (s : List UInt8) : CutD cod := ⟨Nat, fun k => k ≤ (digS s).length, fun k => (digS s).length - k,
  fun k => [(0, .s s), (4, .s (digS s)), (5, .i .i64 (k : Int))], fun k => []⟩
def nmF (s : List UInt8) : FnD cod := ⟨[(5, nmC s)], .tup [.i .i64 (numV s), .a (.bool true)], []⟩
noncomputable def b55 : Code := Tryd.f55.body.getD .skip
noncomputable def l55 : List (FuncId × Ctr cod) := [(70, pintCtr)]
end Go.Proofs.YtbbbpnaghipfmaaDoor

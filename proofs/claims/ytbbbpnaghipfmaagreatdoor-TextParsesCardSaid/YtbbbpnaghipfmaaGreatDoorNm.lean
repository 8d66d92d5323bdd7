/- text.number at any word: what is answered. -/
import Derived.Test.YtbbbpnaghipfmaaGreatDoorLo
namespace Go.Proofs.YtbbbpnaghipfmaaGreatDoor
open Go.RowKit Go.Am Go.Sy
set_option linter.unusedVariables false

theorem hook51 : F.S.hook 51 = some (parseHook 134) := by kernel_rfl
theorem ers2 {E : Env} {x y : SV cod.T} {a b : AVal} (h1 : Er E x a) (h2 : Er E y b) : Er E (.tup [x, y]) (.tup [a, b]) := by
  refine .tup rfl ?_
  intro i u c hi hj
  rcases i with _ | _ | i
  · cases hi; cases hj; exact h1
  · cases hi; cases hj; exact h2
  · simp at hi
def numV (s : List UInt8) : Int := match Lib.parseIntB 64 s with
  | .ok v => v
  | _ => 0
def okB (s : List UInt8) : Bool := match Lib.parseIntB 64 s with
  | .ok _ => true
  | _ => false
/-- strconv.ParseInt at base 10, where it is no nonsense. -/
noncomputable def pintCtr : Ctr cod := fun _ args h K => match args with
  | [x, y, z] => match strOf x, intOf y, intOf z with
    | some s, some (k, m), some (k', n) => if k = .i64 ∧ m = 10 ∧ k' = .i64 ∧ n = 64 then
        .need (s.length ≤ 1000000) (.fork (okB s) (K (.tup [.i .i64 (numV s), .a .nili]) h) (.need (Lib.parseIntB 64 s = .range) (K (.tup [.i .i64 (Lib.intSat 64 s), .a (.iface 134 .junk)]) h))) else .stuck "parse: how"
    | _, _, _ => .stuck "parse: what"
  | _ => .stuck "parse"
theorem pintOk : CtrOk1 F.S 51 pintCtr := by
  intro E lo wlo args h H K av hh hS hA
  unfold pintCtr at hh
  split at hh
  · rename_i x y z
    obtain ⟨a0, as1, rfl, h1, hA1⟩ := hA.inv_cons
    obtain ⟨a1, as2, rfl, h2, hA2⟩ := hA1.inv_cons
    obtain ⟨a2, as3, rfl, h3, hA3⟩ := hA2.inv_cons
    obtain rfl := hA3.inv_nil
    split at hh
    · rename_i s k m k' n e1 e2 e3
      obtain rfl := strOf_ok h1 e1
      obtain rfl := intOf_ok h2 e2
      obtain rfl := intOf_ok h3 e3
      split at hh
      · rename_i e
        obtain ⟨rfl, rfl, rfl, rfl⟩ := e
        obtain ⟨hl, hh⟩ := hh
        rcases fork_cases hh with ⟨ho, hh⟩ | ⟨ho, hh⟩
        · have hv : Lib.parseIntB 64 s = .ok (numV s) := by
            unfold okB at ho
            unfold numV
            cases hp : Lib.parseIntB 64 s <;> rw [hp] at ho <;> first | rfl | exact nomatch ho
          refine quiet_out hook51 (v := .tup [.int .i64 (numV s), .nili]) ?_ hS (ers2 (.i _ _) (.a _)) hh
          simp only [parseHook, hl, hv, and_self, if_true]
        · obtain ⟨hp, hh⟩ := hh
          refine quiet_out hook51 (v := .tup [.int .i64 (Lib.intSat 64 s), .iface 134 .junk]) ?_ hS (ers2 (.i _ _) (.a _)) hh
          simp only [parseHook, hl, hp, and_self, if_true]
      · exact (stuck_no hh).elim
    · exact (stuck_no hh).elim
  · exact (stuck_no hh).elim
/-- Behind its sign. -/
def digS (s : List UInt8) : List UInt8 := if s.take 1 = [45] then s.drop 1 else s
def digitB (c : UInt8) : Bool := decide (48 ≤ c.toNat) && decide (c.toNat ≤ 57)
def headB (s : List UInt8) : Bool := (digS s == []) || (((digS s).getD 0 0 == 48) && !(s == [48]))
def numT (s : List UInt8) : Int × Bool :=
  if headB s = true then (0, false) else if (digS s).all digitB = true then (if okB s = true then (numV s, true) else (Lib.intSat 64 s, false)) else (0, false)
def nmD : CtrD cod where
  pats := [.str]
  pre := fun (x : List UInt8 × Unit) => x.1.length ≤ 100000
  res := fun (x : List UInt8 × Unit) => .tup [.i .i64 (numT x.1).1, .b (numT x.1).2]
  objs := fun x => []
def nmC (s : List UInt8) : CutD cod := ⟨Nat, fun k => k ≤ (digS s).length ∧ headB s = false ∧ ((digS s).take k).all digitB = true, fun k => (digS s).length - k,
  fun k => [(0, .s s), (4, .s (digS s)), (5, .i .i64 (k : Int))], fun k => []⟩
def nmF (s : List UInt8) : FnD cod := ⟨[(5, nmC s)], .tup [.i .i64 (numT s).1, .b (numT s).2], []⟩
noncomputable def b39 : Code := Tryz.f39.body.getD .skip
noncomputable def l39 : List (FuncId × Ctr cod) := [(51, pintCtr)]
end Go.Proofs.YtbbbpnaghipfmaaGreatDoor

/- check.Prog: what it answers. -/
import Derived.Test.YtcholkmididfmaaGreatDoorSx
namespace Go.Proofs.YtcholkmididfmaaGreatDoor
open Go.RowKit Go.Am Go.Sy
set_option linter.unusedVariables false
def shA (op : Int) : Int := if op = 13 then 2 else if op = 15 ∨ op = 16 ∨ op = 17 then 3 else if (1 ≤ op ∧ op ≤ 9) ∨ op = 12 ∨ op = 18 ∨ op = 21 then 1 else 0
def shB (op : Int) : Int := if op = 13 then 4 else if 2 ≤ op ∧ op ≤ 11 then 1 else 0
def shC (op : Int) : Int := if 2 ≤ op ∧ op ≤ 7 then 1 else 0
def shN (op : Int) : Int := if op = 1 ∨ (8 ≤ op ∧ op ≤ 11) then 5 else 0
def mostK (k : Int) : Int := if k = 1 ∨ k = 2 ∨ k = 3 then 3 else if k = 4 then 1 else 0
def fitB (k v : Int) : Bool := decide (v ≥ 0) && decide (v ≤ mostK k)
def mayB (x : Instr) : Bool := decide (x.op ≥ 1) && (decide (x.op ≤ 22) && (fitB (shA x.op) x.a && (fitB (shB x.op) x.b && (fitB (shC x.op) x.c && ((shN x.op == 5) || (x.n == 0))))))
def shD : CtrD cod where
 pats := [.int .i64]
 pre := fun x => True
 res := fun (x : Int × Unit) => .tup [.i .i64 (shA x.1),.i .i64 (shB x.1),.i .i64 (shC x.1),.i .i64 (shN x.1)]
 objs := fun x => []
def fitD : CtrD cod where
 pats := [.int .i64,.int .i64]
 pre := fun x => True
 res := fun (x : Int × Int × Unit) => .b (fitB x.1 x.2.1)
 objs := fun x => []
def mayD : CtrD cod where
 pats := [.row 2]
 pre := fun x => True
 res := fun (x : Instr × Unit) => .b (mayB x.1)
 objs := fun x => []
structure MS where
 m : List Int
 s : List Blk
def opener (op : Int) : Int := if op = 19 ∨ op = 20 then 18 else if op = 22 then 21 else if op = 14 then 13 else 0
def lst (s : List Blk) : Blk := at8 s ((s.length : Int) - 1)
def mstep (p : List Instr) (i : Nat) (q : MS) : Option MS :=
 let op := (at2 p i).op
 let m1 := q.m.set i (-1)
 if op = 18 ∨ op = 21 ∨ op = 13 then some ⟨m1,q.s ++ [⟨i,i⟩]⟩
 else if opener op = 0 then some ⟨m1,q.s⟩
 else if q.s = [] ∨ (at2 p (lst q.s).a).op ≠ opener (at2 p i).op ∨ ((at2 p i).op = 19 ∧ (lst q.s).l ≠ (lst q.s).a) then none
 else
  let m2 := m1.set (lst q.s).l.toNat i
  if op = 19 then some ⟨m2,q.s.set (q.s.length - 1) ⟨(lst q.s).a,i⟩⟩
  else if op = 22 ∨ op = 14 then some ⟨m2.set i (lst q.s).a,q.s.take (q.s.length - 1)⟩
  else some ⟨m2,q.s.take (q.s.length - 1)⟩
def mgo (p : List Instr) : Nat → Nat → MS → List Int × Int
 | 0,i,q => if q.s = [] then (q.m,-1) else ([],(lst q.s).a)
 | r + 1,i,q => match mstep p i q with
  | none => ([],(i : Int))
  | some q' => mgo p r (i + 1) q'
def matesR (p : List Instr) : List Int × Int := mgo p p.length 0 ⟨List.replicate p.length 0,[]⟩
def msOk (p : List Instr) (q : MS) : Prop := q.m.length = p.length ∧ ∀ b ∈ q.s,(0 ≤ b.a ∧ b.a < p.length) ∧ 0 ≤ b.l ∧ b.l < p.length
def mtD : CtrD cod where
 pats := [.tl 2]
 pre := fun (x : List Instr × Unit) => x.1.length ≤ 100000
 res := fun (x : List Instr × Unit) => .tup [.R 0,.i .i64 (matesR x.1).2]
 objs := fun (x : List Instr × Unit) => [.rows 0 (matesR x.1).1 false 0]
structure MtS where
 q : MS
 i : Nat
def mtI (p : List Instr) (s : MtS) : Prop := s.i ≤ p.length ∧ msOk p s.q ∧ s.q.s.length ≤ s.i ∧ mgo p (p.length - s.i) s.i s.q = matesR p
def mtC (p : List Instr) : CutD cod := ⟨MtS,fun s => mtI p s,fun s => 2 + 3 * (p.length - s.i),
 fun s => [(0,.tl (T := T) 2 p),(4,.R 0),(5,.R 1),(13,.i .i64 p.length),(14,.i .i64 s.i)],fun s => [.rows 0 s.q.m false 0,.rows 8 s.q.s false 1]⟩
def mtC21 (p : List Instr) : CutD cod := ⟨MtS,fun s => s.i < p.length ∧ mtI p s ∧ opener (at2 p s.i).op ≠ 0,fun s => 1 + 3 * (p.length - s.i),
 fun s => [(0,.tl (T := T) 2 p),(4,.R 0),(5,.R 1),(6,.i .i64 s.i),(7,.i .i64 (opener (at2 p s.i).op)),(8,.i .i64 ((s.q.s.length : Int) - 1)),(13,.i .i64 p.length),(14,.i .i64 s.i)],fun s => [.rows 0 (s.q.m.set s.i (-1)) false 0,.rows 8 s.q.s false 1]⟩
def msBad (p : List Instr) (i : Nat) (s : List Blk) : Prop := s = [] ∨ (at2 p (lst s).a).op ≠ opener (at2 p i).op ∨ ((at2 p i).op = 19 ∧ (lst s).l ≠ (lst s).a)
def mtC23 (p : List Instr) : CutD cod := ⟨MtS,fun s => s.i < p.length ∧ mtI p s ∧ opener (at2 p s.i).op ≠ 0 ∧ ¬ msBad p s.i s.q.s,fun s => 3 * (p.length - s.i),
 fun s => [(0,.tl (T := T) 2 p),(4,.R 0),(5,.R 1),(6,.i .i64 s.i),(8,.i .i64 ((s.q.s.length : Int) - 1)),(13,.i .i64 p.length),(14,.i .i64 s.i)],fun s => [.rows 0 (s.q.m.set s.i (-1)) false 0,.rows 8 s.q.s false 1]⟩
def mtF (p : List Instr) : FnD cod := ⟨[(4,mtC p),(21,mtC21 p),(23,mtC23 p)],.tup [.R 0,.i .i64 (matesR p).2],[.rows 0 (matesR p).1 false 0]⟩
noncomputable def b45 : Code := Tryz.f147.body.getD .skip
noncomputable def b46 : Code := Tryz.f148.body.getD .skip
noncomputable def b31 : Code := Tryz.f123.body.getD .skip
noncomputable def b32 : Code := Tryz.f53.body.getD .skip
noncomputable def e1 : List (FuncId × Ctr cod) := [(147,mkCtr shD),(148,mkCtr fitD)]
end Go.Proofs.YtcholkmididfmaaGreatDoor
/- eval.May, eval.Mates: their contracts are paid. -/
namespace Go.Proofs.YtcholkmididfmaaGreatDoor
open Go.RowKit Go.Am Go.Sy
set_option linter.unusedVariables false
set_option linter.unusedSimpArgs false
theorem sh_e (op : Int) : Go.Sy.Tree.holds (entryX F (lookC []) 200 Tryz.f147 b45 ⟨[],.tup [.i .i64 (shA op),.i .i64 (shB op),.i .i64 (shC op),.i .i64 (shN op)],[]⟩ [.i .i64 op]) = ( ((op == 1) = true → (1 : Int) =
 shA op ∧ (0 : Int) = shB op ∧ (0 : Int) = shC op ∧ (5 : Int) = shN op ∧ True) ∧ ((op == 1) = false → ((op == 2) = true → (1 : Int) = shA op ∧ (1 : Int) = shB op ∧ (1 : Int) = shC op ∧ (0 : Int) = shN op ∧ True) ∧ ((op ==
 2) = false → ((op == 3) = true → (1 : Int) = shA op ∧ (1 : Int) = shB op ∧ (1 : Int) = shC op ∧ (0 : Int) = shN op ∧ True) ∧ ((op == 3) = false → ((op == 4) = true → (1 : Int) = shA op ∧ (1 : Int) = shB op ∧ (1 : Int) =
 shC op ∧ (0 : Int) = shN op ∧ True) ∧ ((op == 4) = false → ((op == 5) = true → (1 : Int) = shA op ∧ (1 : Int) = shB op ∧ (1 : Int) = shC op ∧ (0 : Int) = shN op ∧ True) ∧ ((op == 5) = false → ((op == 6) = true → (1 :
 Int) = shA op ∧ (1 : Int) = shB op ∧ (1 : Int) = shC op ∧ (0 : Int) = shN op ∧ True) ∧ ((op == 6) = false → ((op == 7) = true → (1 : Int) = shA op ∧ (1 : Int) = shB op ∧ (1 : Int) = shC op ∧ (0 : Int) = shN op ∧ True) ∧
 ((op == 7) = false → ((op == 8) = true → (1 : Int) = shA op ∧ (1 : Int) = shB op ∧ (0 : Int) = shC op ∧ (5 : Int) = shN op ∧ True) ∧ ((op == 8) = false → ((op == 9) = true → (1 : Int) = shA op ∧ (1 : Int) = shB op ∧ (0 :
 Int) = shC op ∧ (5 : Int) = shN op ∧ True) ∧ ((op == 9) = false → ((op == 10) = true → (0 : Int) = shA op ∧ (1 : Int) = shB op ∧ (0 : Int) = shC op ∧ (5 : Int) = shN op ∧ True) ∧ ((op == 10) = false → ((op == 11) = true
 → (0 : Int) = shA op ∧ (1 : Int) = shB op ∧ (0 : Int) = shC op ∧ (5 : Int) = shN op ∧ True) ∧ ((op == 11) = false → ((op == 12) = true → (1 : Int) = shA op ∧ (0 : Int) = shB op ∧ (0 : Int) = shC op ∧ (0 : Int) = shN op ∧
 True) ∧ ((op == 12) = false → ((op == 18) = true → (1 : Int) = shA op ∧ (0 : Int) = shB op ∧ (0 : Int) = shC op ∧ (0 : Int) = shN op ∧ True) ∧ ((op == 18) = false → ((op == 21) = true → (1 : Int) = shA op ∧ (0 : Int) =
 shB op ∧ (0 : Int) = shC op ∧ (0 : Int) = shN op ∧ True) ∧ ((op == 21) = false → ((op == 13) = true → (2 : Int) = shA op ∧ (4 : Int) = shB op ∧ (0 : Int) = shC op ∧ (0 : Int) = shN op ∧ True) ∧ ((op == 13) = false → ((op
 == 15) = true → (3 : Int) = shA op ∧ (0 : Int) = shB op ∧ (0 : Int) = shC op ∧ (0 : Int) = shN op ∧ True) ∧ ((op == 15) = false → ((op == 16) = true → (3 : Int) = shA op ∧ (0 : Int) = shB op ∧ (0 : Int) = shC op ∧ (0 :
 Int) = shN op ∧ True) ∧ ((op == 16) = false → ((op == 17) = true → (3 : Int) = shA op ∧ (0 : Int) = shB op ∧ (0 : Int) = shC op ∧ (0 : Int) = shN op ∧ True) ∧ ((op == 17) = false → (0 : Int) = shA op ∧ (0 : Int) = shB op
 ∧ (0 : Int) = shC op ∧ (0 : Int) = shN op ∧ True))))))))))))))))))) := by kernel_rfl
theorem ft_e (k v : Int) : Go.Sy.Tree.holds (entryX F (lookC []) 200 Tryz.f148 b46 ⟨[],.b (fitB k v),[]⟩ [.i .i64 k,.i .i64 v]) = ( ((k == 1) = true → (decide (v ≥ (0 : Int)) = true → decide (v ≤ 3) = fitB k v ∧ True)
 ∧ (decide (v ≥ (0 : Int)) = false → false = fitB k v ∧ True)) ∧ ((k == 1) = false → ((k == 2) = true → (decide (v ≥ (0 : Int)) = true → decide (v ≤ 3) = fitB k v ∧ True) ∧ (decide (v ≥ (0 : Int)) = false → false = fitB k
 v ∧ True)) ∧ ((k == 2) = false → ((k == 3) = true → (decide (v ≥ (0 : Int)) = true → decide (v ≤ 3) = fitB k v ∧ True) ∧ (decide (v ≥ (0 : Int)) = false → false = fitB k v ∧ True)) ∧ ((k == 3) = false → ((k == 4) = true
 → (decide (v ≥ (0 : Int)) = true → decide (v ≤ 1) = fitB k v ∧ True) ∧ (decide (v ≥ (0 : Int)) = false → false = fitB k v ∧ True)) ∧ ((k == 4) = false → (decide (v ≥ (0 : Int)) = true → decide (v ≤ 0) = fitB k v ∧ True)
 ∧ (decide (v ≥ (0 : Int)) = false → false = fitB k v ∧ True)))))) := by kernel_rfl
theorem my_e (x : Instr) : Go.Sy.Tree.holds (entryX F (lookC e1) 200 Tryz.f123 b31 ⟨[],.b (mayB x),[]⟩ [.agg (enc2 x)]) = ( shD.pre (x.op,()) ∧ (decide (x.op ≥ (1 : Int)) = true → (decide (x.op ≤ 22) = true → fitD.pre
 (shA x.op,x.a,()) ∧ (fitB (shA x.op) x.a = true → fitD.pre (shB x.op,x.b,()) ∧ (fitB (shB x.op) x.b = true → fitD.pre (shC x.op,x.c,()) ∧ (fitB (shC x.op) x.c = true → ((shN x.op == 5) = true → true = mayB x ∧
 True) ∧ ((shN x.op == 5) = false → (x.n == 0) = mayB x ∧ True)) ∧ (fitB (shC x.op) x.c = false → false = mayB x ∧ True)) ∧ (fitB (shB x.op) x.b = false → false = mayB x ∧ True)) ∧ (fitB (shA x.op) x.a = false → false =
 mayB x ∧ True)) ∧ (decide (x.op ≤ 22) = false → false = mayB x ∧ True)) ∧ (decide (x.op ≥ (1 : Int)) = false → false = mayB x ∧ True)) := by kernel_rfl
theorem mt_e (p : List Instr) : Go.Sy.Tree.holds (entryX F (lookC []) 200 Tryz.f53 b32 (mtF p) [.tl (T := T) 2 p]) = ( ((0 : Int) ≤ (↑p.length : Int) ∧ (↑p.length : Int) = (↑p.length : Int) ∧ (↑p.length : Int) * 8 ≤
 281474976710656 ∧ (↑p.length : Int) ≤ 9223372036854775807) ∧ ∃ (s : MtS),p = p ∧ List.replicate (↑p.length : Int).toNat (0 : Int) = s.q.m ∧ [] = s.q.s ∧ (↑p.length : Int) = (↑p.length : Int) ∧ (0 : Int) = (↑s.i : Int) ∧
 mtI p s ∧ True) := by kernel_rfl
theorem mt_4 (p : List Instr) (m : List Int) (s : List Blk) (i : Nat) : Go.Sy.Tree.holds (cutVC F (lookC []) 200 Tryz.f53 b32 (mtF p) 4 (mtC p) ⟨⟨m,s⟩,i⟩) = ( (decide ((↑i : Int) < (↑p.length : Int)) = true → ((0 : Int)
 ≤ (↑i : Int) ∧ (↑i : Int) < (↑m.length : Int)) ∧ ((0 : Int) ≤ (↑i : Int) ∧ (↑i : Int) < (↑m.length : Int)) ∧ ((0 : Int) ≤ (↑i : Int) ∧ (↑i : Int) < (↑p.length : Int)) ∧ (((at2 p (↑i : Int)).op == 18) = true → (s.length +
 [Blk.mk (↑i : Int) (↑i : Int)].length) * 16 ≤ 140737488355328 ∧ ∃ (s_1 : MtS),p = p ∧ m.set (↑i : Int).toNat (-1 : Int) = s_1.q.m ∧ s ++ [Blk.mk (↑i : Int) (↑i : Int)] = s_1.q.s ∧ (↑p.length : Int) = (↑p.length : Int) ∧
 IntKind.i64.wrap ((↑i : Int) + 1) = (↑s_1.i : Int) ∧ mtI p s_1 ∧ (2 : Nat) + 3 * (p.length - s_1.i) < 2 + 3 * (p.length - i) ∧ True) ∧ (((at2 p (↑i : Int)).op == 18) = false → (((at2 p (↑i : Int)).op == 21) = true →
 (s.length + [Blk.mk (↑i : Int) (↑i : Int)].length) * 16 ≤ 140737488355328 ∧ ∃ (s_1 : MtS),p = p ∧ m.set (↑i : Int).toNat (-1 : Int) = s_1.q.m ∧ s ++ [Blk.mk (↑i : Int) (↑i : Int)] = s_1.q.s ∧ (↑p.length : Int) =
 (↑p.length : Int) ∧ IntKind.i64.wrap ((↑i : Int) + 1) = (↑s_1.i : Int) ∧ mtI p s_1 ∧ (2 : Nat) + 3 * (p.length - s_1.i) < 2 + 3 * (p.length - i) ∧ True) ∧ (((at2 p (↑i : Int)).op == 21) = false → (((at2 p (↑i : Int)).op
 == 13) = true → (s.length + [Blk.mk (↑i : Int) (↑i : Int)].length) * 16 ≤ 140737488355328 ∧ ∃ (s_1 : MtS),p = p ∧ m.set (↑i : Int).toNat (-1 : Int) = s_1.q.m ∧ s ++ [Blk.mk (↑i : Int) (↑i : Int)] = s_1.q.s ∧ (↑p.length
 : Int) = (↑p.length : Int) ∧ IntKind.i64.wrap ((↑i : Int) + 1) = (↑s_1.i : Int) ∧ mtI p s_1 ∧ (2 : Nat) + 3 * (p.length - s_1.i) < 2 + 3 * (p.length - i) ∧ True) ∧ (((at2 p (↑i : Int)).op == 13) = false → (((at2 p (↑i :
 Int)).op == 19) = true → ∃ (s_1 : MtS),p = p ∧ m.set (↑i : Int).toNat (-1 : Int) = s_1.q.m.set s_1.i (-1 : Int) ∧ s = s_1.q.s ∧ (↑i : Int) = (↑s_1.i : Int) ∧ (18 : Int) = opener (at2 p (↑s_1.i : Int)).op ∧
 IntKind.i64.wrap ((↑s.length : Int) - 1) = (↑s_1.q.s.length : Int) - 1 ∧ (↑p.length : Int) = (↑p.length : Int) ∧ (↑i : Int) = (↑s_1.i : Int) ∧ (s_1.i < p.length ∧ mtI p s_1 ∧ opener (at2 p (↑s_1.i : Int)).op ≠ (0 : Int))
 ∧ (1 : Nat) + 3 * (p.length - s_1.i) < 2 + 3 * (p.length - i) ∧ True) ∧ (((at2 p (↑i : Int)).op == 19) = false → (((at2 p (↑i : Int)).op == 20) = true → ∃ (s_1 : MtS),p = p ∧ m.set (↑i : Int).toNat (-1 : Int) =
 s_1.q.m.set s_1.i (-1 : Int) ∧ s = s_1.q.s ∧ (↑i : Int) = (↑s_1.i : Int) ∧ (18 : Int) = opener (at2 p (↑s_1.i : Int)).op ∧ IntKind.i64.wrap ((↑s.length : Int) - 1) = (↑s_1.q.s.length : Int) - 1 ∧ (↑p.length : Int) =
 (↑p.length : Int) ∧ (↑i : Int) = (↑s_1.i : Int) ∧ (s_1.i < p.length ∧ mtI p s_1 ∧ opener (at2 p (↑s_1.i : Int)).op ≠ (0 : Int)) ∧ (1 : Nat) + 3 * (p.length - s_1.i) < 2 + 3 * (p.length - i) ∧ True) ∧ (((at2 p (↑i :
 Int)).op == 20) = false → (((at2 p (↑i : Int)).op == 22) = true → ∃ (s_1 : MtS),p = p ∧ m.set (↑i : Int).toNat (-1 : Int) = s_1.q.m.set s_1.i (-1 : Int) ∧ s = s_1.q.s ∧ (↑i : Int) = (↑s_1.i : Int) ∧ (21 : Int) = opener
 (at2 p (↑s_1.i : Int)).op ∧ IntKind.i64.wrap ((↑s.length : Int) - 1) = (↑s_1.q.s.length : Int) - 1 ∧ (↑p.length : Int) = (↑p.length : Int) ∧ (↑i : Int) = (↑s_1.i : Int) ∧ (s_1.i < p.length ∧ mtI p s_1 ∧ opener (at2 p
 (↑s_1.i : Int)).op ≠ (0 : Int)) ∧ (1 : Nat) + 3 * (p.length - s_1.i) < 2 + 3 * (p.length - i) ∧ True) ∧ (((at2 p (↑i : Int)).op == 22) = false → (((at2 p (↑i : Int)).op == 14) = true → ∃ (s_1 : MtS),p = p ∧ m.set (↑i :
 Int).toNat (-1 : Int) = s_1.q.m.set s_1.i (-1 : Int) ∧ s = s_1.q.s ∧ (↑i : Int) = (↑s_1.i : Int) ∧ (13 : Int) = opener (at2 p (↑s_1.i : Int)).op ∧ IntKind.i64.wrap ((↑s.length : Int) - 1) = (↑s_1.q.s.length : Int) - 1 ∧
 (↑p.length : Int) = (↑p.length : Int) ∧ (↑i : Int) = (↑s_1.i : Int) ∧ (s_1.i < p.length ∧ mtI p s_1 ∧ opener (at2 p (↑s_1.i : Int)).op ≠ (0 : Int)) ∧ (1 : Nat) + 3 * (p.length - s_1.i) < 2 + 3 * (p.length - i) ∧ True) ∧
 (((at2 p (↑i : Int)).op == 14) = false → ∃ (s_1 : MtS),p = p ∧ m.set (↑i : Int).toNat (-1 : Int) = s_1.q.m ∧ s = s_1.q.s ∧ (↑p.length : Int) = (↑p.length : Int) ∧ IntKind.i64.wrap ((↑i : Int) + 1) = (↑s_1.i : Int) ∧ mtI
 p s_1 ∧ (2 : Nat) + 3 * (p.length - s_1.i) < 2 + 3 * (p.length - i) ∧ True)))))))) ∧ (decide ((↑i : Int) < (↑p.length : Int)) = false → (decide ((↑s.length : Int) > 0) = true → ((0 : Int) ≤ IntKind.i64.wrap ((↑s.length :
 Int) - 1) ∧ IntKind.i64.wrap ((↑s.length : Int) - 1) < (↑s.length : Int)) ∧ ((0 : Int) ≤ IntKind.i64.wrap ((↑s.length : Int) - 1) ∧ IntKind.i64.wrap ((↑s.length : Int) - 1) < (↑s.length : Int)) ∧ [] = (matesR p).fst ∧
 (at8 s (IntKind.i64.wrap ((↑s.length : Int) - 1))).a = (matesR p).snd ∧ True) ∧ (decide ((↑s.length : Int) > 0) = false → m = (matesR p).fst ∧ (-1 : Int) = (matesR p).snd ∧ True))) := by kernel_rfl
theorem mt_21 (p : List Instr) (m : List Int) (s : List Blk) (i : Nat) : Go.Sy.Tree.holds (cutVC F (lookC []) 200 Tryz.f53 b32 (mtF p) 21 (mtC21 p) ⟨⟨m,s⟩,i⟩) = ( (decide ((↑s.length : Int) - 1 < 0) = true → [] =
 (matesR p).fst ∧ (↑i : Int) = (matesR p).snd ∧ True) ∧ (decide ((↑s.length : Int) - 1 < 0) = false → ((0 : Int) ≤ (↑s.length : Int) - 1 ∧ (↑s.length : Int) - 1 < (↑s.length : Int)) ∧ ((0 : Int) ≤ (↑s.length : Int) - 1 ∧
 (↑s.length : Int) - 1 < (↑s.length : Int)) ∧ ((0 : Int) ≤ (at8 s ((↑s.length : Int) - 1)).a ∧ (at8 s ((↑s.length : Int) - 1)).a < (↑p.length : Int)) ∧ (((at2 p (at8 s ((↑s.length : Int) - 1)).a).op != opener (at2 p (↑i :
 Int)).op) = true → [] = (matesR p).fst ∧ (↑i : Int) = (matesR p).snd ∧ True) ∧ (((at2 p (at8 s ((↑s.length : Int) - 1)).a).op != opener (at2 p (↑i : Int)).op) = false → ((0 : Int) ≤ (↑i : Int) ∧ (↑i : Int) < (↑p.length :
 Int)) ∧ (((at2 p (↑i : Int)).op == 19) = true → ((0 : Int) ≤ (↑s.length : Int) - 1 ∧ (↑s.length : Int) - 1 < (↑s.length : Int)) ∧ ((0 : Int) ≤ (↑s.length : Int) - 1 ∧ (↑s.length : Int) - 1 < (↑s.length : Int)) ∧ ((0 :
 Int) ≤ (↑s.length : Int) - 1 ∧ (↑s.length : Int) - 1 < (↑s.length : Int)) ∧ ((0 : Int) ≤ (↑s.length : Int) - 1 ∧ (↑s.length : Int) - 1 < (↑s.length : Int)) ∧ (((at8 s ((↑s.length : Int) - 1)).l != (at8 s ((↑s.length :
 Int) - 1)).a) = true → [] = (matesR p).fst ∧ (↑i : Int) = (matesR p).snd ∧ True) ∧ (((at8 s ((↑s.length : Int) - 1)).l != (at8 s ((↑s.length : Int) - 1)).a) = false → ∃ (s_1 : MtS),p = p ∧ m.set i (-1 : Int) =
 s_1.q.m.set s_1.i (-1 : Int) ∧ s = s_1.q.s ∧ (↑i : Int) = (↑s_1.i : Int) ∧ (↑s.length : Int) - 1 = (↑s_1.q.s.length : Int) - 1 ∧ (↑p.length : Int) = (↑p.length : Int) ∧ (↑i : Int) = (↑s_1.i : Int) ∧ (s_1.i < p.length ∧
 mtI p s_1 ∧ opener (at2 p (↑s_1.i : Int)).op ≠ (0 : Int) ∧ ¬msBad p s_1.i s_1.q.s) ∧ (3 : Nat) * (p.length - s_1.i) < 1 + 3 * (p.length - i) ∧ True)) ∧ (((at2 p (↑i : Int)).op == 19) = false → ∃ (s_1 : MtS),p = p ∧
 m.set i (-1 : Int) = s_1.q.m.set s_1.i (-1 : Int) ∧ s = s_1.q.s ∧ (↑i : Int) = (↑s_1.i : Int) ∧ (↑s.length : Int) - 1 = (↑s_1.q.s.length : Int) - 1 ∧ (↑p.length : Int) = (↑p.length : Int) ∧ (↑i : Int) = (↑s_1.i : Int) ∧
 (s_1.i < p.length ∧ mtI p s_1 ∧ opener (at2 p (↑s_1.i : Int)).op ≠ (0 : Int) ∧ ¬msBad p s_1.i s_1.q.s) ∧ (3 : Nat) * (p.length - s_1.i) < 1 + 3 * (p.length - i) ∧ True)))) := by kernel_rfl
theorem mt_23 (p : List Instr) (m : List Int) (s : List Blk) (i : Nat) : Go.Sy.Tree.holds (cutVC F (lookC []) 200 Tryz.f53 b32 (mtF p) 23 (mtC23 p) ⟨⟨m,s⟩,i⟩) = ( ((0 : Int) ≤ (↑s.length : Int) - 1 ∧ (↑s.length : Int) -
 1 < (↑s.length : Int)) ∧ ((0 : Int) ≤ (↑s.length : Int) - 1 ∧ (↑s.length : Int) - 1 < (↑s.length : Int)) ∧ ((0 : Int) ≤ (at8 s ((↑s.length : Int) - 1)).l ∧ (at8 s ((↑s.length : Int) - 1)).l < (↑(m.set i (-1 :
 Int)).length : Int)) ∧ ((0 : Int) ≤ (at8 s ((↑s.length : Int) - 1)).l ∧ (at8 s ((↑s.length : Int) - 1)).l < (↑(m.set i (-1 : Int)).length : Int)) ∧ ((0 : Int) ≤ (↑i : Int) ∧ (↑i : Int) < (↑p.length : Int)) ∧ (((at2 p (↑i
 : Int)).op == 19) = true → ((0 : Int) ≤ (↑s.length : Int) - 1 ∧ (↑s.length : Int) - 1 < (↑s.length : Int)) ∧ ((0 : Int) ≤ (↑s.length : Int) - 1 ∧ (↑s.length : Int) - 1 < (↑s.length : Int)) ∧ ∃ (s_1 : MtS),p = p ∧ (m.set
 i (-1 : Int)).set (at8 s ((↑s.length : Int) - 1)).l.toNat (↑i : Int) = s_1.q.m ∧ s.set ((↑s.length : Int) - 1).toNat (Blk.mk (at8 s ((↑s.length : Int) - 1)).a (↑i : Int)) = s_1.q.s ∧ (↑p.length : Int) = (↑p.length : Int)
 ∧ IntKind.i64.wrap ((↑i : Int) + 1) = (↑s_1.i : Int) ∧ mtI p s_1 ∧ (2 : Nat) + 3 * (p.length - s_1.i) < 3 * (p.length - i) ∧ True) ∧ (((at2 p (↑i : Int)).op == 19) = false → (((at2 p (↑i : Int)).op == 22) = true → ((0 :
 Int) ≤ (↑s.length : Int) - 1 ∧ (↑s.length : Int) - 1 < (↑s.length : Int)) ∧ ((0 : Int) ≤ (↑s.length : Int) - 1 ∧ (↑s.length : Int) - 1 < (↑s.length : Int)) ∧ ((0 : Int) ≤ (↑i : Int) ∧ (↑i : Int) < (↑((m.set i (-1 :
 Int)).set (at8 s ((↑s.length : Int) - 1)).l.toNat (↑i : Int)).length : Int)) ∧ ((0 : Int) ≤ (↑i : Int) ∧ (↑i : Int) < (↑((m.set i (-1 : Int)).set (at8 s ((↑s.length : Int) - 1)).l.toNat (↑i : Int)).length : Int)) ∧ ((0 :
 Int) ≤ 0 ∧ (0 : Int) ≤ (↑s.length : Int) - 1 ∧ (↑s.length : Int) - 1 ≤ (↑s.length : Int)) ∧ ∃ (s_1 : MtS),p = p ∧ ((m.set i (-1 : Int)).set (at8 s ((↑s.length : Int) - 1)).l.toNat (↑i : Int)).set (↑i : Int).toNat (at8 s
 ((↑s.length : Int) - 1)).a = s_1.q.m ∧ List.take (((↑s.length : Int) - 1).toNat - 0) (List.drop (0 : Nat) s) = s_1.q.s ∧ (↑p.length : Int) = (↑p.length : Int) ∧ IntKind.i64.wrap ((↑i : Int) + 1) = (↑s_1.i : Int) ∧ mtI p
 s_1 ∧ (2 : Nat) + 3 * (p.length - s_1.i) < 3 * (p.length - i) ∧ True) ∧ (((at2 p (↑i : Int)).op == 22) = false → (((at2 p (↑i : Int)).op == 14) = true → ((0 : Int) ≤ (↑s.length : Int) - 1 ∧ (↑s.length : Int) - 1 <
 (↑s.length : Int)) ∧ ((0 : Int) ≤ (↑s.length : Int) - 1 ∧ (↑s.length : Int) - 1 < (↑s.length : Int)) ∧ ((0 : Int) ≤ (↑i : Int) ∧ (↑i : Int) < (↑((m.set i (-1 : Int)).set (at8 s ((↑s.length : Int) - 1)).l.toNat (↑i :
 Int)).length : Int)) ∧ ((0 : Int) ≤ (↑i : Int) ∧ (↑i : Int) < (↑((m.set i (-1 : Int)).set (at8 s ((↑s.length : Int) - 1)).l.toNat (↑i : Int)).length : Int)) ∧ ((0 : Int) ≤ 0 ∧ (0 : Int) ≤ (↑s.length : Int) - 1 ∧
 (↑s.length : Int) - 1 ≤ (↑s.length : Int)) ∧ ∃ (s_1 : MtS),p = p ∧ ((m.set i (-1 : Int)).set (at8 s ((↑s.length : Int) - 1)).l.toNat (↑i : Int)).set (↑i : Int).toNat (at8 s ((↑s.length : Int) - 1)).a = s_1.q.m ∧
 List.take (((↑s.length : Int) - 1).toNat - 0) (List.drop (0 : Nat) s) = s_1.q.s ∧ (↑p.length : Int) = (↑p.length : Int) ∧ IntKind.i64.wrap ((↑i : Int) + 1) = (↑s_1.i : Int) ∧ mtI p s_1 ∧ (2 : Nat) + 3 * (p.length -
 s_1.i) < 3 * (p.length - i) ∧ True) ∧ (((at2 p (↑i : Int)).op == 14) = false → ((0 : Int) ≤ 0 ∧ (0 : Int) ≤ (↑s.length : Int) - 1 ∧ (↑s.length : Int) - 1 ≤ (↑s.length : Int)) ∧ ∃ (s_1 : MtS),p = p ∧ (m.set i (-1 :
 Int)).set (at8 s ((↑s.length : Int) - 1)).l.toNat (↑i : Int) = s_1.q.m ∧ List.take (((↑s.length : Int) - 1).toNat - 0) (List.drop (0 : Nat) s) = s_1.q.s ∧ (↑p.length : Int) = (↑p.length : Int) ∧ IntKind.i64.wrap ((↑i :
 Int) + 1) = (↑s_1.i : Int) ∧ mtI p s_1 ∧ (2 : Nat) + 3 * (p.length - s_1.i) < 3 * (p.length - i) ∧ True)))) := by kernel_rfl
theorem ft_e_ok (k v : Int) : Paid (entryX F (lookC []) 200 Tryz.f148 b46 ⟨[],.b (fitB k v),[]⟩ [.i .i64 k,.i .i64 v]) := by
 refine ⟨?_⟩
 rw [ft_e]
 have key : ∀ m : Int,mostK k = m → (decide (v ≥ 0) = true → decide (v ≤ m) = fitB k v ∧ True) ∧ (decide (v ≥ 0) = false → false = fitB k v ∧ True) := fun m hm =>
  ⟨fun h => ⟨by rw [fitB,h,hm,Bool.true_and],trivial⟩,fun h => ⟨by rw [fitB,h,Bool.false_and],trivial⟩⟩
 refine ⟨fun h => key 3 ?_,fun h1 => ⟨fun h => key 3 ?_,fun h2 => ⟨fun h => key 3 ?_,fun h3 => ⟨fun h => key 1 ?_,fun h4 => key 0 ?_⟩⟩⟩⟩
 ·rw [eq_of_beq h]; rfl
 ·rw [eq_of_beq h]; rfl
 ·rw [eq_of_beq h]; rfl
 ·rw [eq_of_beq h]; rfl
 ·have h1 := ne_of_beq_false h1
  have h2 := ne_of_beq_false h2
  have h3 := ne_of_beq_false h3
  have h4 := ne_of_beq_false h4
  rw [mostK,if_neg (by omega),if_neg h4]
theorem fitOk : CtrOk1 F.S 148 (mkCtr fitD) :=
 mkCtr_paid (fn := Tryz.f148) (body := b46) (ctr := lookC []) codOk noExt hookLow noneOk Tryz.func148 rfl rfl rfl fitD 200 (fun _ => []) (show 2 ≤ 22 by decide) (show 22 ≤ 512 by decide) (by kernel_rfl) (fun _ _ => ⟨rfl,rfl⟩)
  (fun (x : Int × Int × Unit) hp => ft_e_ok x.1 x.2.1) (fun x hp p hm => by cases hm)
theorem sh_e_ok (op : Int) : Paid (entryX F (lookC []) 200 Tryz.f147 b45 ⟨[],.tup [.i .i64 (shA op),.i .i64 (shB op),.i .i64 (shC op),.i .i64 (shN op)],[]⟩ [.i .i64 op]) := by
 refine ⟨?_⟩
 rw [sh_e]
 by_cases hr : 1 ≤ op ∧ op ≤ 21
 ·obtain ⟨n,rfl⟩ := Int.eq_ofNat_of_zero_le (show 0 ≤ op by omega)
  have hn : n ≤ 21 := by omega
  have hn0 : 1 ≤ n := by omega
  have : ∀ n : Nat,n ≤ 21 → n = 0 ∨ n = 1 ∨ n = 2 ∨ n = 3 ∨ n = 4 ∨ n = 5 ∨ n = 6 ∨ n = 7 ∨ n = 8 ∨ n = 9 ∨ n = 10 ∨ n = 11 ∨ n = 12 ∨ n = 13 ∨ n = 14 ∨ n = 15 ∨ n = 16 ∨ n = 17 ∨ n = 18 ∨ n = 19 ∨ n = 20 ∨ n = 21 := by omega
  rcases this n hn with rfl | rfl | rfl | rfl | rfl | rfl | rfl | rfl | rfl | rfl | rfl | rfl | rfl | rfl | rfl | rfl | rfl | rfl | rfl | rfl | rfl | rfl
  ·omega
  all_goals simp [shA,shB,shC,shN]
 ·have hA : shA op = 0 := by rw [shA,if_neg (by omega),if_neg (by omega),if_neg (by omega)]
  have hB : shB op = 0 := by rw [shB,if_neg (by omega),if_neg (by omega)]
  have hC : shC op = 0 := by rw [shC,if_neg (by omega)]
  have hN : shN op = 0 := by rw [shN,if_neg (by omega)]
  have ne : ∀ k : Int,1 ≤ k → k ≤ 21 → (op == k) = false := fun k h1 h2 => by
   have : op ≠ k := by rintro rfl; exact hr ⟨h1,h2⟩
   simpa using this
  rw [hA,hB,hC,hN]
  simp [ne]
theorem shOk : CtrOk1 F.S 147 (mkCtr shD) :=
 mkCtr_paid (fn := Tryz.f147) (body := b45) (ctr := lookC []) codOk noExt hookLow noneOk Tryz.func147 rfl rfl rfl shD 200 (fun _ => []) (show 1 ≤ 33 by decide) (show 33 ≤ 512 by decide) (by kernel_rfl) (fun _ _ => ⟨rfl,rfl⟩)
  (fun (x : Int × Unit) hp => sh_e_ok x.1) (fun x hp p hm => by cases hm)
theorem e1Ok : CtrOk F.S (lookC e1) := lookC_ok fun p h => by
 simp only [e1,List.mem_cons,List.not_mem_nil,or_false] at h
 rcases h with rfl | rfl
 ·exact shOk
 ·exact fitOk
theorem my_e_ok (x : Instr) : Paid (entryX F (lookC e1) 200 Tryz.f123 b31 ⟨[],.b (mayB x),[]⟩ [.agg (enc2 x)]) := by
 refine ⟨?_⟩
 rw [my_e]
 exact ⟨trivial,fun h1 => ⟨fun h2 => ⟨trivial,fun h3 => ⟨trivial,fun h4 => ⟨trivial,fun h5 => ⟨fun h6 => ⟨by rw [mayB,h1,h2,h3,h4,h5,h6]; rfl,trivial⟩,fun h6 => ⟨by rw [mayB,h1,h2,h3,h4,h5,h6]; rfl,trivial⟩⟩,
  fun h5 => ⟨by rw [mayB,h1,h2,h3,h4,h5]; rfl,trivial⟩⟩,fun h4 => ⟨by rw [mayB,h1,h2,h3,h4]; rfl,trivial⟩⟩,fun h3 => ⟨by rw [mayB,h1,h2,h3]; rfl,trivial⟩⟩,fun h2 => ⟨by rw [mayB,h1,h2]; rfl,trivial⟩⟩,fun h1 => ⟨by rw [mayB,h1]; rfl,trivial⟩⟩
theorem mayOk : CtrOk1 F.S 123 (mkCtr mayD) :=
 mkCtr_paid (fn := Tryz.f123) (body := b31) (ctr := lookC e1) codOk noExt hookLow e1Ok Tryz.func123 rfl rfl rfl mayD 200 (fun _ => []) (show 1 ≤ 50 by decide) (show 50 ≤ 512 by decide) (by kernel_rfl) (fun _ _ => ⟨rfl,rfl⟩)
  (fun (x : Instr × Unit) hp => my_e_ok x.1) (fun x hp p hm => by cases hm)
section
variable {p : List Instr} {i : Nat} {m : List Int} {s : List Blk}
theorem mgo_step (h : i < p.length) (q : MS) : mgo p (p.length - i) i q = match mstep p i q with
 | none => ([],(i : Int))
 | some q' => mgo p (p.length - (i + 1)) (i + 1) q' := by
 rw [show p.length - i = (p.length - (i + 1)) + 1 by omega]
 rfl
theorem ms_open (h : (at2 p i).op = 18 ∨ (at2 p i).op = 21 ∨ (at2 p i).op = 13) : mstep p i ⟨m,s⟩ = some ⟨m.set i (-1),s ++ [⟨i,i⟩]⟩ := if_pos h
theorem ms_other (h : ¬ ((at2 p i).op = 18 ∨ (at2 p i).op = 21 ∨ (at2 p i).op = 13)) (k : opener (at2 p i).op = 0) : mstep p i ⟨m,s⟩ = some ⟨m.set i (-1),s⟩ := by
 unfold mstep
 simp only
 rw [if_neg h,if_pos k]
theorem op_of (k : opener (at2 p i).op ≠ 0) : (at2 p i).op = 19 ∨ (at2 p i).op = 20 ∨ (at2 p i).op = 22 ∨ (at2 p i).op = 14 := by
 unfold opener at k
 repeat' split at k
 all_goals first
  | omega
  | exact (k rfl).elim
theorem ms_bad (k : opener (at2 p i).op ≠ 0) (hb : msBad p i s) : mstep p i ⟨m,s⟩ = none := by
 have h := op_of k
 unfold msBad at hb
 unfold mstep
 simp only
 rw [if_neg (by omega),if_neg k,if_pos hb]
theorem ms_else (k : opener (at2 p i).op ≠ 0) (hb : ¬ msBad p i s) (ho : (at2 p i).op = 19) : mstep p i ⟨m,s⟩ = some ⟨(m.set i (-1)).set (lst s).l.toNat i,s.set (s.length - 1) ⟨(lst s).a,i⟩⟩ := by
 unfold msBad at hb
 unfold mstep
 simp only
 rw [if_neg (by omega),if_neg k,if_neg hb,if_pos ho]
theorem ms_back (k : opener (at2 p i).op ≠ 0) (hb : ¬ msBad p i s) (ho : (at2 p i).op = 22 ∨ (at2 p i).op = 14) : mstep p i ⟨m,s⟩ = some ⟨((m.set i (-1)).set (lst s).l.toNat i).set i (lst s).a,s.take (s.length - 1)⟩ := by
 unfold msBad at hb
 unfold mstep
 simp only
 rw [if_neg (by omega),if_neg k,if_neg hb,if_neg (by omega),if_pos ho]
theorem ms_end (k : opener (at2 p i).op ≠ 0) (hb : ¬ msBad p i s) (h1 : ¬ (at2 p i).op = 19) (h2 : ¬ ((at2 p i).op = 22 ∨ (at2 p i).op = 14)) : mstep p i ⟨m,s⟩ = some ⟨(m.set i (-1)).set (lst s).l.toNat i,s.take (s.length - 1)⟩ := by
 have h := op_of k
 unfold msBad at hb
 unfold mstep
 simp only
 rw [if_neg (by omega),if_neg k,if_neg hb,if_neg h1,if_neg h2]
theorem lst_in (h : s ≠ []) : lst s ∈ s := by
 have hl : s.length - 1 < s.length := by
  have := List.length_pos_iff.2 h
  omega
 have e : lst s = s[s.length - 1] := by
  unfold lst
  rw [show (s.length : Int) - 1 = ((s.length - 1 : Nat) : Int) by omega]
  exact at8_get hl
 rw [e]
 exact List.getElem_mem hl
theorem mt_next {m' : List Int} {s' : List Blk} (hi : i < p.length) (hI : mtI p ⟨⟨m,s⟩,i⟩) (hs : mstep p i ⟨m,s⟩ = some ⟨m',s'⟩) (hm : m'.length = m.length) (hb : ∀ b ∈ s',b ∈ s ∨ (b.a = i ∧ b.l = i) ∨ ∃ b' ∈ s,b.a = b'.a ∧ b.l = i) (hl : s'.length ≤ s.length + 1) : mtI p ⟨⟨m',s'⟩,i + 1⟩ := by
 obtain ⟨h1,⟨h2,h3⟩,h4,h5⟩ := hI
 refine ⟨hi,⟨?_, ?_⟩, ?_, ?_⟩
 ·show m'.length = p.length
  rw [hm]; exact h2
 ·intro b hbm
  rcases hb b hbm with h | ⟨e1,e2⟩ | ⟨b',h,e1,e2⟩
  ·exact h3 b h
  ·rw [e1,e2]; exact ⟨⟨by omega,by omega⟩,by omega,by omega⟩
  ·rw [e1,e2]; exact ⟨(h3 b' h).1,by omega,by omega⟩
 ·show s'.length ≤ i + 1
  have : s.length ≤ i := h4
  omega
 ·have := mgo_step hi ⟨m,s⟩
  rw [hs] at this
  show mgo p (p.length - (i + 1)) (i + 1) ⟨m',s'⟩ = _
  rw [← h5]
  exact this.symm
theorem mt_fail (hi : i < p.length) (hI : mtI p ⟨⟨m,s⟩,i⟩) (hs : mstep p i ⟨m,s⟩ = none) : [] = (matesR p).1 ∧ (i : Int) = (matesR p).2 ∧ True := by
 have := mgo_step hi ⟨m,s⟩
 rw [hs] at this
 have h5 : mgo p (p.length - i) i ⟨m,s⟩ = matesR p := hI.2.2.2
 rw [← h5,this]
 exact ⟨rfl,rfl,trivial⟩
end
theorem mt_e_ok (p : List Instr) (hp : p.length ≤ 100000) : Paid (entryX F (lookC []) 200 Tryz.f53 b32 (mtF p) [.tl (T := T) 2 p]) := by
 refine ⟨?_⟩
 rw [mt_e]
 refine ⟨⟨by omega,rfl,by omega,by omega⟩,⟨⟨List.replicate p.length 0,[]⟩,0⟩,rfl,rfl,rfl,rfl,rfl,⟨Nat.zero_le _,⟨List.length_replicate,fun b hb => by cases hb⟩,qf _,rfl⟩,trivial⟩
theorem mt_4_ok (p : List Instr) (hp : p.length ≤ 100000) (m : List Int) (s : List Blk) (i : Nat) (hI : mtI p ⟨⟨m,s⟩,i⟩) : Paid (cutVC F (lookC []) 200 Tryz.f53 b32 (mtF p) 4 (mtC p) ⟨⟨m,s⟩,i⟩) := by
 refine ⟨?_⟩
 rw [mt_4]
 have hI' := hI
 obtain ⟨h1,⟨h2,h3⟩,h4,h5⟩ := hI'
 replace h1 : i ≤ p.length := h1
 replace h2 : m.length = p.length := h2
 replace h4 : s.length ≤ i := h4
 replace h5 : mgo p (p.length - i) i ⟨m,s⟩ = matesR p := h5
 refine ⟨fun h => ?_,fun h => ?_⟩
 ·have h : i < p.length := by have := qb h; omega
  have hw : IntKind.i64.wrap ((i : Int) + 1) = ((i + 1 : Nat) : Int) := succ64 (by omega)
  have hwl : IntKind.i64.wrap ((s.length : Int) - 1) = (s.length : Int) - 1 := wrap64 (by omega) (by omega)
  have hmeas : 2 + 3 * (p.length - (i + 1)) < 2 + 3 * (p.length - i) := by omega
  have hmeas2 : 1 + 3 * (p.length - i) < 2 + 3 * (p.length - i) := by omega
  have hop : (at2 p i).op = 18 ∨ (at2 p i).op = 21 ∨ (at2 p i).op = 13 → mtI p ⟨⟨m.set i (-1),s ++ [⟨i,i⟩]⟩,i + 1⟩ := fun ho => mt_next h hI (ms_open ho) (by rw [qz]) (fun b hb => by
   rw [List.mem_append,List.mem_singleton] at hb
   rcases hb with hb | rfl
   ·exact .inl hb
   ·exact .inr (.inl ⟨rfl,rfl⟩)) (by simp)
  have hsz : (s.length + 1) * 16 ≤ 140737488355328 := by omega
  have cl : ∀ o : Int,opener (at2 p i).op = o → o ≠ 0 → ∃ (s_1 : MtS),p = p ∧ m.set (i : Int).toNat (-1) = s_1.q.m.set s_1.i (-1) ∧ s = s_1.q.s ∧ (i : Int) = (s_1.i : Int) ∧ o = opener (at2 p s_1.i).op ∧ IntKind.i64.wrap ((s.length : Int) - 1) = (s_1.q.s.length : Int) - 1 ∧ (p.length : Int) = (p.length : Int) ∧ (i : Int) = (s_1.i : Int) ∧
   (s_1.i < p.length ∧ mtI p s_1 ∧ opener (at2 p s_1.i).op ≠ 0) ∧ 1 + 3 * (p.length - s_1.i) < 2 + 3 * (p.length - i) ∧ True := fun o ho h0 =>
   ⟨⟨⟨m,s⟩,i⟩,rfl,rfl,rfl,rfl,ho.symm,hwl,rfl,rfl,⟨h,hI,by rw [ho]; exact h0⟩,hmeas2,trivial⟩
  refine ⟨⟨by omega,(by show (i : Int) < m.length; omega)⟩,⟨by omega,(by show (i : Int) < m.length; omega)⟩,⟨by omega,by omega⟩,fun g => ?_,fun g1 => ⟨fun g => ?_,fun g2 => ⟨fun g => ?_,fun g3 => ⟨fun g => ?_,fun g4 => ⟨fun g => ?_,fun g5 => ⟨fun g => ?_,fun g6 => ⟨fun g => ?_,fun g7 => ?_⟩⟩⟩⟩⟩⟩⟩
  ·exact ⟨hsz,⟨⟨m.set i (-1),s ++ [⟨i,i⟩]⟩,i + 1⟩,rfl,rfl,rfl,rfl,hw,hop (.inl (eq_of_beq g)),hmeas,trivial⟩
  ·exact ⟨hsz,⟨⟨m.set i (-1),s ++ [⟨i,i⟩]⟩,i + 1⟩,rfl,rfl,rfl,rfl,hw,hop (.inr (.inl (eq_of_beq g))),hmeas,trivial⟩
  ·exact ⟨hsz,⟨⟨m.set i (-1),s ++ [⟨i,i⟩]⟩,i + 1⟩,rfl,rfl,rfl,rfl,hw,hop (.inr (.inr (eq_of_beq g))),hmeas,trivial⟩
  ·exact cl 18 (by rw [eq_of_beq g]; rfl) (by decide)
  ·exact cl 18 (by rw [eq_of_beq g]; rfl) (by decide)
  ·exact cl 21 (by rw [eq_of_beq g]; rfl) (by decide)
  ·exact cl 13 (by rw [eq_of_beq g]; rfl) (by decide)
  ·have g1 := ne_of_beq_false g1
   have g2 := ne_of_beq_false g2
   have g3 := ne_of_beq_false g3
   have g4 := ne_of_beq_false g4
   have g5 := ne_of_beq_false g5
   have g6 := ne_of_beq_false g6
   have g7 := ne_of_beq_false g7
   have ho : opener (at2 p i).op = 0 := by rw [opener,if_neg (by omega),if_neg (by omega),if_neg (by omega)]
   exact ⟨⟨⟨m.set i (-1),s⟩,i + 1⟩,rfl,rfl,rfl,rfl,hw,mt_next h hI (ms_other (by omega) ho) (by rw [qz]) (fun b hb => .inl hb) (by omega),hmeas,trivial⟩
 ·have h : i = p.length := by have := qc h; omega
  subst h
  rw [Nat.sub_self] at h5
  refine ⟨fun g => ?_,fun g => ?_⟩
  ·have g : (s.length : Int) > 0 := qb g
   have hne : s ≠ [] := by rintro rfl; simp at g
   have hwl : IntKind.i64.wrap ((s.length : Int) - 1) = (s.length : Int) - 1 := wrap64 (by omega) (by omega)
   show (_ ≤ IntKind.i64.wrap ((s.length : Int) - 1) ∧ IntKind.i64.wrap ((s.length : Int) - 1) < (s.length : Int)) ∧ (_ ≤ IntKind.i64.wrap ((s.length : Int) - 1) ∧ IntKind.i64.wrap ((s.length : Int) - 1) < (s.length : Int)) ∧ [] = (matesR p).fst ∧ (at8 s (IntKind.i64.wrap ((s.length : Int) - 1))).a = (matesR p).snd ∧ True
   rw [hwl,← h5,mgo,if_neg hne]
   exact ⟨⟨by omega,by omega⟩,⟨by omega,by omega⟩,rfl,rfl,trivial⟩
  ·have g : ¬ (s.length : Int) > 0 := qc g
   have hne : s = [] := List.length_eq_zero_iff.1 (by omega)
   subst hne
   show m = (matesR p).fst ∧ (-1 : Int) = (matesR p).snd ∧ True
   rw [← h5,mgo,if_pos rfl]
   exact ⟨rfl,rfl,trivial⟩
theorem mt_21_ok (p : List Instr) (m : List Int) (s : List Blk) (i : Nat) (hi : i < p.length) (hI : mtI p ⟨⟨m,s⟩,i⟩) (ho : opener (at2 p i).op ≠ 0) : Paid (cutVC F (lookC []) 200 Tryz.f53 b32 (mtF p) 21 (mtC21 p) ⟨⟨m,s⟩,i⟩) := by
 refine ⟨?_⟩
 rw [mt_21]
 have bad : msBad p i s → [] = (matesR p).1 ∧ (i : Int) = (matesR p).2 ∧ True := fun hb => mt_fail hi hI (ms_bad ho hb)
 have go : ¬ msBad p i s → ∃ (s_1 : MtS),p = p ∧ m.set i (-1) = s_1.q.m.set s_1.i (-1) ∧ s = s_1.q.s ∧ (i : Int) = (s_1.i : Int) ∧ (s.length : Int) - 1 = (s_1.q.s.length : Int) - 1 ∧ (p.length : Int) = (p.length : Int) ∧ (i : Int) = (s_1.i : Int) ∧
  (s_1.i < p.length ∧ mtI p s_1 ∧ opener (at2 p s_1.i).op ≠ 0 ∧ ¬ msBad p s_1.i s_1.q.s) ∧ 3 * (p.length - s_1.i) < 1 + 3 * (p.length - i) ∧ True := fun hb =>
  ⟨⟨⟨m,s⟩,i⟩,rfl,rfl,rfl,rfl,rfl,rfl,rfl,⟨hi,hI,ho,hb⟩,(show 3 * (p.length - i) < 1 + 3 * (p.length - i) by omega),trivial⟩
 show (decide ((s.length : Int) - 1 < 0) = true → _) ∧ (decide ((s.length : Int) - 1 < 0) = false → _)
 refine ⟨fun h => bad (.inl ?_),fun h => ?_⟩
 ·have := qb h
  exact List.length_eq_zero_iff.1 (by omega)
 ·have h := qc h
  have hne : s ≠ [] := by rintro rfl; simp at h
  have hb := hI.2.1.2 _ (lst_in hne)
  have r1 : (0 : Int) ≤ (s.length : Int) - 1 ∧ (s.length : Int) - 1 < (s.length : Int) := ⟨by omega,by omega⟩
  refine ⟨r1,r1,hb.1,fun g => bad (.inr (.inl ?_)),fun g => ⟨⟨by omega,by omega⟩,fun k => ⟨r1,r1,r1,r1,fun q => bad (.inr (.inr ⟨eq_of_beq k, ?_⟩)),fun q => go ?_⟩,fun k => go ?_⟩⟩
  ·show (at2 p (lst s).a).op ≠ _
   intro e
   have g : ((at2 p (lst s).a).op != opener (at2 p i).op) = true := g
   rw [e] at g
   simp at g
  ·intro e
   have q : ((lst s).l != (lst s).a) = true := q
   rw [e] at q
   simp at q
  ·have g : ((at2 p (lst s).a).op != opener (at2 p i).op) = false := g
   have q : ((lst s).l != (lst s).a) = false := q
   have g : (at2 p (lst s).a).op = opener (at2 p i).op := by simpa using g
   have q : (lst s).l = (lst s).a := by simpa using q
   rintro (e | e | ⟨_,e⟩)
   ·exact hne e
   ·exact e g
   ·exact e q
  ·have g : ((at2 p (lst s).a).op != opener (at2 p i).op) = false := g
   have g : (at2 p (lst s).a).op = opener (at2 p i).op := by simpa using g
   rintro (e | e | ⟨e,_⟩)
   ·exact hne e
   ·exact e g
   ·exact ne_of_beq_false k e
theorem mt_23_ok (p : List Instr) (hp : p.length ≤ 100000) (m : List Int) (s : List Blk) (i : Nat) (hi : i < p.length) (hI : mtI p ⟨⟨m,s⟩,i⟩) (ho : opener (at2 p i).op ≠ 0) (hb : ¬ msBad p i s) : Paid (cutVC F (lookC []) 200 Tryz.f53 b32 (mtF p) 23 (mtC23 p) ⟨⟨m,s⟩,i⟩) := by
 refine ⟨?_⟩
 rw [mt_23]
 have hne : s ≠ [] := fun e => hb (.inl e)
 have hpos := List.length_pos_iff.2 hne
 have hin := lst_in hne
 have hl := hI.2.1.2 _ hin
 have hml : m.length = p.length := hI.2.1.1
 have r1 : (0 : Int) ≤ (s.length : Int) - 1 ∧ (s.length : Int) - 1 < (s.length : Int) := ⟨by omega,by omega⟩
 have r2 : (0 : Int) ≤ (lst s).l ∧ (lst s).l < ((m.set i (-1)).length : Int) := ⟨hl.2.1,by rw [qz,hml]; exact hl.2.2⟩
 have r3 : (0 : Int) ≤ (i : Int) ∧ (i : Int) < (((m.set i (-1)).set (lst s).l.toNat (i : Int)).length : Int) := ⟨by omega,by rw [qz,qz,hml]; omega⟩
 have r4 : (0 : Int) ≤ 0 ∧ (0 : Int) ≤ (s.length : Int) - 1 ∧ (s.length : Int) - 1 ≤ (s.length : Int) := ⟨by omega,by omega,by omega⟩
 have hw : IntKind.i64.wrap ((i : Int) + 1) = ((i + 1 : Nat) : Int) := succ64 (by omega)
 have hmeas : 2 + 3 * (p.length - (i + 1)) < 3 * (p.length - i) := by omega
 have et : ((s.length : Int) - 1).toNat = s.length - 1 := by omega
 have ed : List.take (((s.length : Int) - 1).toNat - 0) (List.drop 0 s) = s.take (s.length - 1) := by rw [et]; rfl
 refine ⟨r1,r1,r2,r2,⟨by omega,by omega⟩,fun g => ⟨r1,r1,⟨⟨(m.set i (-1)).set (lst s).l.toNat i,s.set (s.length - 1) ⟨(lst s).a,i⟩⟩,i + 1⟩,rfl,rfl, ?_,rfl,hw, ?_,hmeas,trivial⟩,fun g1 => ⟨fun g => ⟨r1,r1,r3,r3,r4,⟨⟨((m.set i (-1)).set (lst s).l.toNat i).set i (lst s).a,s.take (s.length - 1)⟩,i + 1⟩,rfl,rfl,ed,rfl,hw, ?_,hmeas,trivial⟩,
  fun g2 => ⟨fun g => ⟨r1,r1,r3,r3,r4,⟨⟨((m.set i (-1)).set (lst s).l.toNat i).set i (lst s).a,s.take (s.length - 1)⟩,i + 1⟩,rfl,rfl,ed,rfl,hw, ?_,hmeas,trivial⟩,fun g3 => ⟨r4,⟨⟨(m.set i (-1)).set (lst s).l.toNat i,s.take (s.length - 1)⟩,i + 1⟩,rfl,rfl,ed,rfl,hw, ?_,hmeas,trivial⟩⟩⟩⟩
 ·show s.set ((s.length : Int) - 1).toNat ⟨(lst s).a,i⟩ = _
  rw [et]
 ·refine mt_next hi hI (ms_else ho hb (eq_of_beq g)) (by simp) (fun b hbm => ?_) (by simp)
  rcases List.mem_or_eq_of_mem_set hbm with h | rfl
  ·exact .inl h
  ·exact .inr (.inr ⟨_,hin,rfl,rfl⟩)
 ·exact mt_next hi hI (ms_back ho hb (.inl (eq_of_beq g))) (by simp) (fun b hbm => .inl (List.mem_of_mem_take hbm)) (by simp; omega)
 ·exact mt_next hi hI (ms_back ho hb (.inr (eq_of_beq g))) (by simp) (fun b hbm => .inl (List.mem_of_mem_take hbm)) (by simp; omega)
 ·exact mt_next hi hI (ms_end ho hb (ne_of_beq_false g1) (fun e => e.elim (ne_of_beq_false g2) (ne_of_beq_false g3))) (by simp) (fun b hbm => .inl (List.mem_of_mem_take hbm)) (by simp; omega)
theorem plain0 : ∀ y : cod.T 0,(cod.enc 0 y).all plainS = true := fun y => rfl
def mtCt : Ctr cod := mkCtrU [.tl 2] (fun (x : List Instr × Unit) => x.1.length ≤ 100000) 0 (fun (x : List Instr × Unit) => (matesR x.1).1) .i64 (fun (x : List Instr × Unit) => (matesR x.1).2)
theorem mtOk : CtrOk1 F.S 53 mtCt :=
 mkCtrU_paid (fn := Tryz.f53) (body := b32) (ctr := lookC []) codOk noExt hookLow noneOk Tryz.func53 rfl rfl rfl [.tl 2] (fun (x : List Instr × Unit) => x.1.length ≤ 100000) 0 (fun (x : List Instr × Unit) => (matesR x.1).1) .i64 (fun (x : List Instr × Unit) => (matesR x.1).2) false 0 plain0 200 (fun (x : List Instr × Unit) => [(4,mtC x.1),(21,mtC21 x.1),(23,mtC23 x.1)]) (show 1 ≤ 128 by decide) (show 128 ≤ 512 by decide) (by kernel_rfl)
  (fun (x : List Instr × Unit) hp => mt_e_ok x.1 hp) (fun (x : List Instr × Unit) hp p hm s hI => by
   simp only [List.mem_cons,List.not_mem_nil,or_false] at hm
   rcases hm with rfl | rfl | rfl
   ·exact mt_4_ok x.1 hp s.q.m s.q.s s.i hI
   ·exact mt_21_ok x.1 s.q.m s.q.s s.i hI.1 hI.2.1 hI.2.2
   ·exact mt_23_ok x.1 hp s.q.m s.q.s s.i hI.1 hI.2.1 hI.2.2.1 hI.2.2.2)
end Go.Proofs.YtcholkmididfmaaGreatDoor

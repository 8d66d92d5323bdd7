/- The document's own Prog (6.2), and what it stands on: what these answer. -/
import Derived.Test.YtjboohjicdmidaaDoorPd
namespace Go.Proofs.YtjboohjicdmidaaDoor
open Go.RowKit Go.Am Go.Sy
set_option linter.unusedVariables false

/-! ### Which instructions may be -/
def fdD : CtrD cod where
  pats := [.int .i64]
  pre := fun x => True
  res := fun (x : Int × Unit) => .tup [.i .i64 (shA x.1), .i .i64 (shB x.1), .i .i64 (shC x.1), .b (shN x.1 == 5)]
  objs := fun x => []
def fiD : CtrD cod where
  pats := [.int .i64, .int .i64]
  pre := fun (x : Int × Int × Unit) => 0 ≤ x.1 ∧ x.1 ≤ 4
  res := fun (x : Int × Int × Unit) => .b (fitB x.1 x.2.1)
  objs := fun x => []
noncomputable def b62 : Code := Tryd.f62.body.getD .skip
noncomputable def b63 : Code := Tryd.f63.body.getD .skip
noncomputable def b58 : Code := Tryd.f58.body.getD .skip
noncomputable def r1 : List (FuncId × Ctr cod) := [(62, mkCtr fdD), (63, mkCtr fiD)]

/-! ### Mates -/
def opens (s : List Blk) : List Int := s.map (·.l)
def rmL (p : List Instr) : List Int := if (matesR p).2 < 0 then (matesR p).1 else []
def rmD : CtrD cod where
  pats := [.tl 2]
  pre := fun (x : List Instr × Unit) => x.1.length ≤ 100000
  res := fun (x : List Instr × Unit) => .tup [.R 0, .i .i64 (matesR x.1).2]
  objs := fun (x : List Instr × Unit) => [.rows 0 (rmL x.1) false 0]
/-- Of an open block: where it began, where it is now; whose mate it is. -/
structure BOk (p : List Instr) (i : Nat) (m : List Int) (b : Blk) : Prop where
  a0 : 0 ≤ b.a
  al : b.a ≤ b.l
  li : b.l < i
  op : (at2 p b.a).op = 18 ∨ (at2 p b.a).op = 21 ∨ (at2 p b.a).op = 13
  els : b.l ≠ b.a → (at2 p b.a).op = 18 ∧ (at2 p b.l).op = 19 ∧ at0 m b.a = b.l ∧ ∀ j : Nat, j < i → at0 m j = b.l → (j : Int) = b.a
def jOk (p : List Instr) (s : MtS) : Prop := mtI p s ∧ s.q.s.Pairwise (fun x y => x.l < y.a) ∧ (∀ b ∈ s.q.s, BOk p s.i s.q.m b) ∧ ∀ j : Nat, at0 s.q.m j ≤ 0 ∨ at0 s.q.m j < s.i
def topO (s : List Blk) : Int := if s = [] then -1 else (lst s).l
def isO (p : List Instr) (s : List Blk) : Int := if s = [] then 0 else (at2 p (lst s).l).op
def rmC4 (p : List Instr) : CutD cod := ⟨MtS, fun s => jOk p s, fun s => p.length + (4 + 3 * (p.length - s.i)),
  fun s => [(0, .tl (T := T) 2 p), (4, .R 0), (5, .R 1), (6, .i .i64 s.i)], fun s => [.rows 0 s.q.m false 0, .rows 0 (opens s.q.s) false 1]⟩
def rmC14 (p : List Instr) : CutD cod := ⟨MtS, fun s => s.i < p.length ∧ jOk p s, fun s => p.length + (3 + 3 * (p.length - s.i)),
  fun s => [(0, .tl (T := T) 2 p), (4, .R 0), (5, .R 1), (6, .i .i64 s.i), (7, .i .i64 (topO s.q.s)), (8, .i .i64 (isO p s.q.s)), (9, .b true)], fun s => [.rows 0 (s.q.m.set s.i (-1)) false 0, .rows 0 (opens s.q.s) false 1]⟩
structure RmS where
  m : List Int
  b : Blk
  j : Nat
def rmC42 (p : List Instr) : CutD cod := ⟨RmS, fun s => s.m.length = p.length ∧ BOk p p.length s.m s.b ∧ s.b.l ≠ s.b.a ∧ s.b.l < p.length ∧ (s.j : Int) ≤ s.b.a ∧ (matesR p).2 = s.b.a, fun s => p.length - s.j,
  fun s => [(4, .R 0), (10, .i .i64 s.b.l), (11, .i .i64 s.j)], fun s => [.rows 0 s.m false 0]⟩
def rmF (p : List Instr) : FnD cod := ⟨[(4, rmC4 p), (14, rmC14 p), (42, rmC42 p)], .tup [.R 0, .i .i64 (matesR p).2], [.rows 0 (rmL p) false 0]⟩
noncomputable def b59 : Code := Tryd.f59.body.getD .skip

/-! ### A section on its way -/
def rW (p : List Instr) (o : List Int) : List Instr := o.map (at2 p)
def writesR (p : List Instr) (o : List Int) : Bool := writesB (rW p o)
def mineR (cs : List Int) (p : List Instr) (a : Int) (o : List Int) : Int := o.foldl (fun v k => if a ≥ 0 ∧ a < cs.length ∧ (at2 p k).a = at0 cs a then (at2 p k).b else v) (-1)
def restR (cs : List Int) (p : List Instr) (o : List Int) (x : Instr) : Int :=
  if x.op = 9 then (if (o.length : Int) > 0 ∧ writesR p o = false then 7 else 0)
  else if x.op = 10 ∨ x.op = 11 then (if writesR p o = false then 7 else 0)
  else if x.op = 15 ∨ x.op = 16 ∨ x.op = 17 then (if x.a ≥ cs.length then 9 else if mineR cs p x.a o < 0 ∨ (x.op = 15 ∧ ¬ (o.length : Int) = 1) then 6 else if mineR cs p x.a o = 1 then 7 else 0)
  else 0
def reD : CtrD cod where
  pats := [.frow 10, .row 4, .tl 2, .int .i64]
  pre := fun (x : Rk × Config × List Instr × Int × Unit) => x.1.o.length ≤ 1000 ∧ (∀ k ∈ x.1.o, 0 ≤ k ∧ k < x.2.2.1.length) ∧ 0 ≤ x.2.2.2.1 ∧ x.2.2.2.1 < x.2.2.1.length
  res := fun (x : Rk × Config × List Instr × Int × Unit) => .i .i64 (restR x.2.1.conds x.2.2.1 x.1.o (at2 x.2.2.1 x.2.2.2.1))
  objs := fun x => []
def reC (w : Rk) (c : Config) (p : List Instr) (i : Int) : CutD cod := ⟨Nat, fun k => k ≤ w.o.length, fun k => w.o.length - k,
  fun k => [(0, .fp (enc10 w)), (2, .tl (T := T) 2 p), (3, .i .i64 i), (5, .ptr 0 0), (9, .ptr 1 0), (10, .b (writesR p (w.o.take k))), (11, .i .i64 (mineR c.conds p (at2 p i).a (w.o.take k))), (12, .b ((w.o.length : Int) == 1)), (13, .i .i64 k)], fun k => [.cells (enc4 c), .cells (enc2 (at2 p i))]⟩
noncomputable def b61 : Code := Tryd.f61.body.getD .skip

/-! ### Prog -/
structure RpS where
  g : PgS
  o : List Int
  last : Int
  loops : Int
/-- What it keeps is what check keeps. -/
def rLink (p : List Instr) (s : RpS) : Prop := s.g.w.o = rW p s.o ∧ (∀ k ∈ s.o, 0 ≤ k ∧ k < p.length) ∧ (s.o ≠ [] → s.g.w.top = s.last ∧ s.g.w.loops = s.loops) ∧ (-(s.g.i : Int) ≤ s.loops ∧ s.loops ≤ s.g.i) ∧ (s.g.w.o.Pairwise fun x y => x.a < y.a) ∧ ∀ x ∈ s.g.w.o, x.a ≤ s.g.w.top ∧ 0 ≤ x.b
def rpC7 (c : Config) (t : Nat) : CutD cod := ⟨Nat, fun i => i ≤ (at3 c.progs t).length ∧ (at3 c.progs t).length ≤ 48 ∧ mayGo (at3 c.progs t) ((at3 c.progs t).length - i) i = mayGo (at3 c.progs t) (at3 c.progs t).length 0 ∧ ∀ k, k < i → mayB (at2 (at3 c.progs t) k) = true, fun i => 200 - i,
  fun i => [(1, .i .i64 t), (2, .ptr 0 0), (6, .tl (T := T) 2 (at3 c.progs t)), (7, .i .i64 i)], fun _ => [.cells (enc4 c)]⟩
def rpC16 (c : Config) (t : Nat) : CutD cod := ⟨RpS, fun s => pgI c t (at3 c.progs t) s.g ∧ rLink (at3 c.progs t) s, fun s => 100 - s.g.i,
  fun s => [(1, .i .i64 t), (2, .ptr 0 0), (6, .tl (T := T) 2 (at3 c.progs t)), (10, .ptr 1 0), (11, .i .i64 s.g.i)], fun s => [.cells (enc4 c), .cells [.R 2, .i .i64 s.last, .i .i64 s.loops], .rows 0 s.o false 2]⟩
def rpF (c : Config) (t : Nat) : FnD cod := ⟨[(7, rpC7 c t), (16, rpC16 c t)], .tup [.i .i64 (pwC c t).1, .i .i64 (pwC c t).2.2], []⟩
noncomputable def b52 : Code := Tryd.f52.body.getD .skip
noncomputable def r2 : List (FuncId × Ctr cod) := [(58, mkCtr mayD), (59, mkCtr rmD), (61, mkCtr reD)]
end Go.Proofs.YtjboohjicdmidaaDoor

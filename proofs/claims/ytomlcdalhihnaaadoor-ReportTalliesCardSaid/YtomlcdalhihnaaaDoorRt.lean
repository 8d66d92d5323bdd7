/- What is told of a tally and of an attempt; what attempts are made of tries. -/
import Derived.Test.YtomlcdalhihnaaaDoorIw
namespace Go.Proofs.YtomlcdalhihnaaaDoor
open Go.RowKit Go.Am Go.Sy
set_option linter.unusedVariables false

/-- A cause's word. -/
def causeT (c : Int) : List UInt8 :=
  if c = 1 then [108, 111, 99, 107, 101, 100] else if c = 2 then [115, 116, 97, 108, 101] else if c = 3 then [119, 97, 116, 99, 104]
  else if c = 4 then [102, 117, 108, 108] else if c = 5 then [111, 118, 101, 114] else [115, 99, 114, 105, 112, 116]
def causeD : CtrD cod where
  pats := [.int .i64]
  pre := fun (x : Int × Unit) => 1 ≤ x.1 ∧ x.1 ≤ 6
  res := fun (x : Int × Unit) => .s (causeT x.1)
  objs := fun x => []
def cau (t : Tly) (c : Nat) : Int := if c = 1 then t.c1 else if c = 2 then t.c2 else if c = 3 then t.c3 else if c = 4 then t.c4 else if c = 5 then t.c5 else t.c6
def headT (t : Tly) : List UInt8 := [116, 114, 105, 101, 115, 32] ++ (decS t.tries ++ ([32, 115, 112, 101, 99, 32] ++ (decS t.spec ++ ([32, 114, 101, 97, 108, 32] ++ decS t.real))))
def part (t : Tly) (c : Nat) : List UInt8 := if cau t c = 0 then [] else [32] ++ (causeT c ++ ([32] ++ decS (cau t c)))
def parts (t : Tly) : Nat → List UInt8
  | 0 => []
  | n + 1 => parts t n ++ part t (n + 1)
def okT (t : Tly) : Prop := inI t.tries ∧ inI t.spec ∧ inI t.real ∧ ∀ c, 1 ≤ c → c ≤ 6 → inI (cau t c)
def tallyD : CtrD cod where
  pats := [.row 6]
  pre := fun (x : Tly × Unit) => okT x.1
  res := fun (x : Tly × Unit) => .s (headT x.1 ++ parts x.1 6)
  objs := fun x => []
def taC (t : Tly) : CutD cod := ⟨Nat, fun n => n ≤ 6, fun n => 7 - n,
  fun n => [(1, .ptr 0 0), (3, .s (headT t ++ parts t n)), (4, .a (.int .i64 ((n : Int) + 1)))], fun _ => [.cells (enc6 t)]⟩
def taF (t : Tly) : FnD cod := ⟨[(3, taC t)], .s (headT t ++ parts t 6), []⟩

def kindT (r : Bool) : List UInt8 := if r = true then [114, 101, 97, 108] else [115, 112, 101, 99]
def endT (n : Int) : List UInt8 := if n = 6 then [99, 111, 109, 109, 105, 116] else if n = 7 then [97, 98, 111, 114, 116] else if n = 0 then [97, 108, 105, 118, 101] else [63]
def attT (x : Att) : List UInt8 := [116] ++ (decS x.thread ++ ([46] ++ (decS x.tri ++ ([32] ++ (kindT x.real ++ ([32, 97, 116, 32] ++ (decS x.stamp ++ ([32, 114, 101, 97, 100, 115, 32] ++ (decS (x.reads.length : Int) ++
  ([32, 119, 114, 105, 116, 101, 115, 32] ++ (decS (x.writes.length : Int) ++ ([32] ++ endT x.fin))))))))))))
def okA (x : Att) : Prop := inI x.thread ∧ inI x.tri ∧ inI x.stamp ∧ x.reads.length ≤ 1000000 ∧ x.writes.length ≤ 1000000
def attD : CtrD cod where
  pats := [.row 5]
  pre := fun (x : Att × Unit) => okA x.1
  res := fun (x : Att × Unit) => .s (attT x.1)
  objs := fun x => []

def cA12 (x : Att) : CutD cod := ⟨Unit, fun _ => True, fun _ => 0, fun _ => [(1, .ptr 0 0), (3, .s (kindT x.real)), (4, .s (endT x.fin))], fun _ => [.cells (enc5 x)]⟩
def fA (x : Att) : FnD cod := ⟨[(12, cA12 x)], .s (attT x), []⟩
def pre2 (x : Att) : List UInt8 := [116] ++ (decS x.thread ++ ([46] ++ (decS x.tri ++ ([32] ++ kindT x.real))))
def pre6 (x : Att) : List UInt8 := pre2 x ++ ([32, 97, 116, 32] ++ (decS x.stamp ++ ([32, 114, 101, 97, 100, 115, 32] ++ (decS (x.reads.length : Int) ++
  ([32, 119, 114, 105, 116, 101, 115, 32] ++ decS (x.writes.length : Int))))))
def cB5 (x : Att) : CutD cod := ⟨Unit, fun _ => True, fun _ => 1, fun _ => [(1, .ptr 0 0), (3, .s (pre2 x))], fun _ => [.cells (enc5 x)]⟩
def cB6 (x : Att) : CutD cod := ⟨Unit, fun _ => True, fun _ => 0, fun _ => [(1, .ptr 0 0), (3, .s (pre6 x))], fun _ => [.cells (enc5 x)]⟩
def fB (x : Att) : FnD cod := ⟨[(5, cB5 x), (6, cB6 x)], .s (attT x), []⟩
/-! ### Attempts out of tries -/
def u3 (n : Int) : Int := IntKind.i64.wrap ((IntKind.u64.wrap n).tmod 3)
def w3get (w : W3) (i : Int) : Int := if i = 2 then w.c else if i = 1 then w.b else w.a
def w3set (w : W3) (i v : Int) : W3 := if i = 2 then ⟨w.a, w.b, v⟩ else if i = 1 then ⟨w.a, v, w.c⟩ else ⟨v, w.b, w.c⟩
structure OpS where
  own : W3
  rs : List Wd
  ws : List Wd
  sn : List Int
def stepO (s : OpS) (o : Op) : OpS :=
  if (IntKind.u64.wrap o.kind).tmod 2 = 1 then ⟨w3set s.own (u3 o.a) (u3 o.v), s.rs, s.ws ++ [⟨u3 o.a, u3 o.v⟩], s.sn⟩
  else ⟨s.own, s.rs ++ [⟨u3 o.a, w3get s.own (u3 o.a)⟩], s.ws, s.sn ++ [(s.ws.length : Int)]⟩
def opsS (w : W3) (l : List Op) : OpS := l.foldl stepO ⟨w, [], [], []⟩
def finT (t : Try) : Int := if (IntKind.u64.wrap t.fin).tmod 4 = 3 then 0 else if (IntKind.u64.wrap t.fin).tmod 4 = 2 then 7 else 6
def frmT (t : Try) : Int := IntKind.i64.wrap ((IntKind.u64.wrap t.frm).tmod 8)
def untilT (t : Try) : Int := IntKind.i64.wrap (frmT t + IntKind.i64.wrap ((IntKind.u64.wrap t.long).tmod 4))
def mkA (k : Nat) (t : Try) (s : OpS) : Att := ⟨u3 t.thread, (k : Int) + 1, t.real, frmT t, untilT t, finT t, 0, 0, s.rs, s.ws, s.sn, []⟩
def nextW (w : W3) (t : Try) (s : OpS) : W3 := if finT t = 6 then s.own else w
structure Ru where
  done : List Att
  w : W3
def stepT (r : Ru) (t : Try) : Ru := ⟨r.done ++ [mkA r.done.length t (opsS r.w t.ops)], nextW r.w t (opsS r.w t.ops)⟩
def runT (l : List Try) : Ru := l.foldl stepT ⟨[], ⟨0, 0, 0⟩⟩

/-! ### How they lie -/
def attC (id : Nat) (x : Att) : List (SV T) := [.i .i64 x.thread, .i .i64 x.tri, .b x.real, .i .i64 x.frm, .i .i64 x.unt, .i .i64 x.fin, .i .i64 x.stamp, .i .i64 x.step, .R id, .R (id + 1), .R (id + 2), .a .nils]
def attO (id : Nat) (x : Att) : List (Go.Sy.Obj T) := [.rows 4 x.reads true id, .rows 4 x.writes true (id + 1), .rows 0 x.seen true (id + 2)]
def outC (id : Nat) : List Att → List (SV T)
  | [] => []
  | x :: l => attC id x ++ outC (id + 3) l
def outR (id : Nat) : List Att → List (Go.Sy.Obj T)
  | [] => []
  | x :: l => attO id x ++ outR (id + 3) l
def outV (id : Nat) (l : List Att) : SV T := match l with
  | [] => .a .nils
  | x :: l => .sl 12 id 0 (l.length + 1) (l.length + 1) false
def outO (id : Nat) (l : List Att) : List (Go.Sy.Obj T) := match l with
  | [] => []
  | x :: l => .cells (outC (id + 1) (x :: l)) :: outR (id + 1) (x :: l)
def w3C (w : W3) : List (SV T) := [.i .i64 w.a, .i .i64 w.b, .i .i64 w.c]
def okOps (l : List Try) : Prop := l.length ≤ 3 ∧ ∀ t ∈ l, t.ops.length ≤ 6
def attsD : CtrD cod where
  pats := [.tl 3, .row 7, .lit Unit (fun _ => .bool true)]
  pre := fun (x : List Try × W3 × Unit × Unit) => okOps x.1 ∧ x.2.1 = ⟨0, 0, 0⟩
  res := fun (x : List Try × W3 × Unit × Unit) => outV 0 (runT x.1).done
  objs := fun (x : List Try × W3 × Unit × Unit) => outO 0 (runT x.1).done
/-- So many attempts. -/
def Tp : Nat → Type
  | 0 => Unit
  | k + 1 => Att × Tp k
def tpl : (k : Nat) → Tp k → List Att
  | 0, _ => []
  | k + 1, s => s.1 :: tpl k s.2
/-- The head of the loop over tries, behind so many. -/
def asC4 (l : List Try) (k : Nat) : CutD cod := ⟨Tp k × W3, fun s => k ≤ l.length ∧ l.length ≤ 3 ∧ (⟨tpl k s.1, s.2⟩ : Ru) = runT (l.take k), fun _ => 1 + 10 * (l.length - k),
  fun s => [(7, outV 1 (tpl k s.1)), (0, .tl (T := T) 3 l), (2, .a (.bool true)), (8, .ptr 0 0), (9, .a (.int .i64 k))], fun s => .cells (w3C s.2) :: outO 1 (tpl k s.1)⟩
structure InS where
  w : W3
  t : Try
  s : OpS
  j : Nat
/-- The head of the loop over what a try does. -/
def asC11 (l : List Try) (k : Nat) : CutD cod := ⟨Tp k × InS, fun q => k < l.length ∧ l.length ≤ 3 ∧ (⟨tpl k q.1, q.2.w⟩ : Ru) = runT (l.take k) ∧ q.2.t = at3 l k ∧ q.2.t.ops.length ≤ 6 ∧ q.2.j ≤ q.2.t.ops.length ∧ q.2.s = opsS q.2.w (q.2.t.ops.take q.2.j), fun q => 10 * (l.length - k) - q.2.j,
  fun q => [(7, outV 7 (tpl k q.1)), (0, .tl (T := T) 3 l), (2, .a (.bool true)), (8, .ptr 0 0), (9, .a (.int .i64 k)), (10, .ptr 1 0), (11, .ptr 2 0), (12, .ptr 3 0), (13, .i .i64 q.2.j)],
  fun q => [.cells (w3C q.2.w), .cells (enc3 q.2.t), .cells (attC 4 (mkA k q.2.t q.2.s)), .cells (w3C q.2.s.own)] ++ attO 4 (mkA k q.2.t q.2.s) ++ outO 7 (tpl k q.1)⟩
/-- Behind the loops. -/
def asC25 (d : List Att) (k : Nat) : CutD cod := ⟨Tp k, fun s => tpl k s = d, fun _ => 0, fun s => [(7, outV 0 (tpl k s))], fun s => outO 0 (tpl k s)⟩
def asCs (l : List Try) (d : List Att) : List (Nat × CutD cod) := [(4, asC4 l 0), (4, asC4 l 1), (4, asC4 l 2), (4, asC4 l 3), (11, asC11 l 0), (11, asC11 l 1), (11, asC11 l 2), (25, asC25 d 0), (25, asC25 d 1), (25, asC25 d 2), (25, asC25 d 3)]
def asF (l : List Try) (d : List Att) : FnD cod := ⟨asCs l d, outV 0 d, outO 0 d⟩
noncomputable def b10 : Code := Tryd.f10.body.getD .skip
noncomputable def b11 : Code := Tryd.f11.body.getD .skip
noncomputable def b12 : Code := Tryd.f12.body.getD .skip
noncomputable def b13 : Code := Tryd.f13.body.getD .skip
noncomputable def b14 : Code := Tryd.f14.body.getD .skip
noncomputable def b32 : Code := Tryd.f32.body.getD .skip
noncomputable def b33 : Code := Tryd.f33.body.getD .skip
/-- What the texts stand on. -/
noncomputable def r0 : List (FuncId × Ctr cod) := [(19, mkCtr decD), (40, mkCtr itoaD), (46, mkCtr fiD)]
noncomputable def r1 : List (FuncId × Ctr cod) := [(19, mkCtr decD), (40, mkCtr itoaD), (46, mkCtr fiD), (32, mkCtr causeD), (33, mkCtr causeD)]
end Go.Proofs.YtomlcdalhihnaaaDoor

/- The document's own words of a line, numbers, instructions, texts: what is answered. -/
import Derived.Test.YtbbbpnaghipfmaaGreatDoorBp
namespace Go.Proofs.YtbbbpnaghipfmaaGreatDoor
open Go.RowKit Go.Am Go.Sy
set_option linter.unusedVariables false

/-- A list of plain rows, sealed, beside two numbers. -/
def mkCtrT3 {C : Codec} (ps : List (Pat C)) (pre : tys ps → Prop) (n : Nat) (l : tys ps → List (C.T n)) (c t : tys ps → Int) : Ctr C := fun wlo args h K => takeAll h ps args fun x => .need (pre x) (K (.tup [.tl n (l x), .i .i64 (c x), .i .i64 (t x)]) h)

theorem mkCtrT3_paid {C : Codec} {F : Cf C} (hC : CodecOk C) (hX : ExtNo F.S F.noExt) (hL : HookLow F.S) {ctr : FuncId → Option (Ctr C)} (hctr : CtrOk F.S ctr) {f : FuncId} {fn : Func} {body : Code} (hf : F.S.P.funcs[f]? = some fn) (hb : fn.body = some body) (hk : F.S.hook f = none) (hp : F.S.pol f = .pure)
    (ps : List (Pat C)) (pre : tys ps → Prop) (n : Nat) (l : tys ps → List (C.T n)) (c t : tys ps → Int) (full : Bool) (root : Nat) (hpl : ∀ y : C.T n, (C.enc n y).all plainS = true) (N : Nat) (cuts : tys ps → List (Nat × CutD C)) (hn : ps.length ≤ fn.ntmps) (hs : fn.ntmps ≤ 512) (hnd : nodupB ((allK body []).map (·.1)) = true)
    (hentry : ∀ x, pre x → Paid (entryX F ctr N fn body ⟨cuts x, .tup [.R 0, .i .i64 (c x), .i .i64 (t x)], [.rows n (l x) full root]⟩ (argsS ps x)))
    (hcuts : ∀ x, pre x → ∀ p, p ∈ cuts x → ∀ s, p.2.I s → Paid (cutVC F ctr N fn body ⟨cuts x, .tup [.R 0, .i .i64 (c x), .i .i64 (t x)], [.rows n (l x) full root]⟩ p.1 p.2 s)) : CtrOk1 F.S f (mkCtrT3 ps pre n l c t) := by
  intro E lo wlo args h H K av hh hS hA
  obtain ⟨x, ⟨hpre, hK⟩, hAx⟩ := takeAll_ok hC hS hA hh
  have hal : ∀ (ps : List (Pat C)) (y : tys ps), (argsS ps y).length = ps.length := by
    intro ps
    induction ps with
    | nil => intro y; rfl
    | cons p ps ih => intro y; simp only [argsS, List.length_cons, ih]
  have hS0 : SimH (away H) ((F.S.pol f).lo lo H) 0 ([] : SH C) H := away_sim (by rw [hp]; simp only [Pol.lo]; exact Nat.le_refl _)
  obtain ⟨m, v, H', E', h1, h2, h4⟩ := fn_runsP hC hX hL hctr hf hb hk ⟨cuts x, .tup [.R 0, .i .i64 (c x), .i .i64 (t x)], [.rows n (l x) full root]⟩ N (by rw [hal]; exact hn) hs hnd (hentry x hpre).out (fun p hm s hI => (hcuts x hpre p hm s hI).out) hS0 hAx
  rw [hp] at h1 h2
  cases h4 with
  | tup hl he =>
    rename_i ls
    obtain ⟨a0, l1, rfl⟩ : ∃ a l1, ls = a :: l1 := by cases ls with | nil => cases hl | cons a l1 => exact ⟨_, _, rfl⟩
    obtain ⟨a1, l2, rfl⟩ : ∃ a l2, l1 = a :: l2 := by cases l1 with | nil => cases hl | cons a l2 => exact ⟨_, _, rfl⟩
    obtain ⟨a2, l3, rfl⟩ : ∃ a l3, l2 = a :: l3 := by cases l2 with | nil => cases hl | cons a l3 => exact ⟨_, _, rfl⟩
    obtain rfl : l3 = [] := by cases l3 with | nil => rfl | cons => cases hl
    have e0 := he 0 _ _ rfl rfl
    have e1 := he 1 _ _ rfl rfl
    have e2 := he 2 _ _ rfl rfl
    obtain rfl : a1 = .int .i64 (c x) := by cases e1; rfl
    obtain rfl : a2 = .int .i64 (t x) := by cases e2; rfl
    obtain ⟨a, k1, k2⟩ := frz_rowsN 61 hC hpl h2 e0
    have k1 : frz H.length H' true 63 a0 = some a := k1
    have hi : ∀ k m, frz H.length H' true 63 (.int k m) = some (.int k m) := fun k m => by unfold frz; rfl
    have k3 : frz H.length H' true 64 (.tup [a0, .int .i64 (c x), .int .i64 (t x)]) = some (.tup [a, .int .i64 (c x), .int .i64 (t x)]) := by
      unfold frz
      simp only [frzs, k1, hi, Option.map_some]
    refine ⟨.tup [a, .int .i64 (c x), .int .i64 (t x)], H, _, _, E, ⟨m, by rw [h1]; simp only [finish, k3, Option.map_some]⟩, LeN.refl _ _, Nat.le_refl _, hS, Nat.le_refl _, ?_, hK⟩
    refine .tup rfl ?_
    intro i u b hi hj
    rcases i with _ | _ | _ | i
    · cases hi; cases hj; exact k2 E
    · cases hi; cases hj; exact .i _ _
    · cases hi; cases hj; exact .i _ _
    · simp at hi

/-! ### Split -/
/-- A line's words, none of them empty; or none. -/
def wordsR (s : List UInt8) : List (List UInt8) := if (splitL 32 s).any (fun w => w == []) = true then [] else splitL 32 s
structure SpS where
  k : Nat
  f : Nat
  q : List (List UInt8)
def spI (s : List UInt8) (x : SpS) : Prop :=
  (x.k ≤ s.length ∧ x.f ≤ x.k ∧ (32 : UInt8) ∉ (s.drop x.f).take (x.k - x.f) ∧ splitL 32 s = x.q ++ splitL 32 (s.drop x.f) ∧ (∀ w ∈ x.q, w ≠ []) ∧ x.q.length ≤ x.k) ∨ (x.k = s.length + 1 ∧ splitL 32 s = x.q ∧ (∀ w ∈ x.q, w ≠ []))
def spC (s : List UInt8) : CutD cod := ⟨SpS, spI s, fun x => s.length + 1 - x.k,
  fun x => [(0, .s s), (3, .R 0), (4, .i .i64 (x.f : Int)), (5, .i .i64 (x.k : Int))], fun x => [.rows 3 x.q true 0]⟩
def spF (s : List UInt8) : FnD cod := ⟨[(4, spC s)], .R 0, [.rows 3 (wordsR s) true 0]⟩
noncomputable def b32 : Code := Tryz.f32.body.getD .skip

/-! ### number -/
def negB (s : List UInt8) : Bool := s.take 1 == [45]
def dR (s : List UInt8) : List UInt8 := if negB s = true then s.drop 1 else s
/-- What digits spell, behind what was spelt. -/
def valG (acc : Nat) : List UInt8 → Nat
  | [] => acc
  | c :: r => valG (acc * 10 + (c.toNat - 48)) r
def badN (s : List UInt8) : Bool := decide ((dR s).length < 1) || decide ((dR s).length > 19) || ((((dR s).getD 0 0).toNat == 48) && (decide ((dR s).length > 1) || negB s))
def numR (s : List UInt8) : Int × Bool :=
  if badN s = true then (0, false) else if (dR s).all digitB = true then
    (if negB s = true then (IntKind.i64.wrap (IntKind.i64.wrap (0 - IntKind.i64.wrap (IntKind.u64.wrap ((valG 0 (dR s) : Int) - 1))) - 1), decide (valG 0 (dR s) ≤ 9223372036854775808)) else (IntKind.i64.wrap (valG 0 (dR s) : Int), decide (valG 0 (dR s) < 9223372036854775808)))
  else (0, false)
def nrD : CtrD cod where
  pats := [.str]
  pre := fun (x : List UInt8 × Unit) => x.1.length ≤ 100000
  res := fun (x : List UInt8 × Unit) => .tup [.i .i64 (numR x.1).1, .b (numR x.1).2]
  objs := fun x => []
def nrC (s : List UInt8) : CutD cod := ⟨Nat, fun k => k ≤ (dR s).length ∧ badN s = false ∧ ((dR s).take k).all digitB = true, fun k => (dR s).length - k,
  fun k => [(4, .b (negB s)), (5, .s (dR s)), (6, .i .u64 (valG 0 ((dR s).take k) : Int)), (7, .i .i64 (k : Int))], fun k => []⟩
def nrF (s : List UInt8) : FnD cod := ⟨[(9, nrC s)], .tup [.i .i64 (numR s).1, .b (numR s).2], []⟩
noncomputable def b33 : Code := Tryz.f33.body.getD .skip

/-! ### instr -/
/-- A word of one digit. -/
def digV (w : List UInt8) : Option Int := match w with
  | [c] => if digitB c = true then some ((c.toNat : Int) - 48) else none
  | _ => none
def refFill : List UInt8 → List (List UInt8) → Ins → Option (Ins × List (List UInt8))
  | [], l, i => some (i, l)
  | _ :: _, [], _ => none
  | c :: f, w :: l, i => if c = 110 then (if (numR w).2 = true then refFill f l (setF c (numR w).1 i) else none) else match digV w with
    | some v => refFill f l (setF c v i)
    | none => none
/-- Which word of the list it is, among the first ones. -/
def opGo (w : List UInt8) : Nat → Int
  | 0 => 0
  | k + 1 => if 1 ≤ k ∧ at3 wordsL k = w then (k : Int) else opGo w k
def readW : List UInt8 := [114, 101, 97, 100]
def opR (w : List UInt8) : Int := if w = readW then 13 else opGo w 23
def zIns : Ins := ⟨0, 0, 0, 0, 0⟩
def bS (op : Int) : Int := if op = 13 then 0 else shB op
/-- Which of its fields are still to come, behind so many. -/
def fl (op : Int) (k : Nat) : List UInt8 := (if k = 0 ∧ shA op ≠ 0 then [97] else []) ++ ((if k ≤ 1 ∧ bS op ≠ 0 then [98] else []) ++ ((if k ≤ 2 ∧ shC op ≠ 0 then [99] else []) ++ (if shN op = 5 then [110] else [])))
def i0R (w : List UInt8) : Ins := ⟨opR w, 0, if w = readW then 1 else 0, 0, 0⟩
def endR : Option (Ins × List (List UInt8)) → Ins × Bool
  | some (i, []) => (i, mayB i)
  | some (i, _ :: _) => (i, false)
  | none => (zIns, false)
def insR (ws : List (List UInt8)) : Ins × Bool :=
  if ws = [] then (zIns, false) else if opR (at3 ws 0) = 0 then (zIns, false) else endR (refFill (fl (opR (at3 ws 0)) 0) (ws.drop 1) (i0R (at3 ws 0)))
noncomputable def splitRCtr : Ctr cod := mkCtrL (C := cod) [.str] (fun (x : List UInt8 × Unit) => x.1.length ≤ 20000) 3 (fun (x : List UInt8 × Unit) => wordsR x.1)
def irD : CtrD cod where
  pats := [.str]
  pre := fun (x : List UInt8 × Unit) => x.1.length ≤ 20000
  res := fun (x : List UInt8 × Unit) => .tup [insS (insR (wordsR x.1)).1, .b (insR (wordsR x.1)).2]
  objs := fun x => []
def irC (s : List UInt8) : CutD cod := ⟨Nat, fun k => 1 ≤ k ∧ k ≤ 23 ∧ wordsR s ≠ [], fun k => 100 - k,
  fun k => [(2, .ptr 0 0), (4, .tl (T := T) 3 (wordsR s)), (5, .ptr 1 0), (6, .i .i64 (k : Int))], fun k => [.cells zeros, .cells [.i .i64 (opGo (at3 (wordsR s) 0) k), .a (.int .i64 0), .a (.int .i64 0), .a (.int .i64 0), .a (.int .i64 0)]]⟩
def irC12 (s : List UInt8) : CutD cod := ⟨Unit, fun _ => wordsR s ≠ [], fun k => 50,
  fun k => [(2, .ptr 0 0), (4, .tl (T := T) 3 (wordsR s)), (5, .ptr 1 0)], fun k => [.cells zeros, .cells [.i .i64 (opR (at3 (wordsR s) 0)), .a (.int .i64 0), .i .i64 (if at3 (wordsR s) 0 = readW then 1 else 0), .a (.int .i64 0), .a (.int .i64 0)]]⟩
structure IrS where
  t : Nat
  i : Ins
def irI (s : List UInt8) (k : Nat) (x : IrS) : Prop := 1 ≤ x.t ∧ x.t ≤ (wordsR s).length ∧ x.i.op = opR (at3 (wordsR s) 0) ∧ insR (wordsR s) = endR (refFill (fl (opR (at3 (wordsR s) 0)) k) ((wordsR s).drop x.t) x.i)
def irK (s : List UInt8) (k : Nat) : CutD cod := ⟨IrS, irI s k, fun _ => 10 - k,
  fun x => [(2, .ptr 0 0), (4, .tl (T := T) 3 (wordsR s)), (5, .ptr 1 0), (7, .i .i64 (shA (opR (at3 (wordsR s) 0)))), (8, .i .i64 (bS (opR (at3 (wordsR s) 0)))), (9, .i .i64 (shC (opR (at3 (wordsR s) 0)))), (10, .b (shN (opR (at3 (wordsR s) 0)) == 5)), (11, .i .i64 (x.t : Int)), (12, .a (.int .i64 (k : Int)))],
  fun x => [.cells zeros, .cells [.i .i64 x.i.op, .i .i64 x.i.a, .i .i64 x.i.b, .i .i64 x.i.c, .i .i64 x.i.n]]⟩
def irF (s : List UInt8) : FnD cod := ⟨[(6, irC s), (12, irC12 s), (19, irK s 0), (19, irK s 1), (19, irK s 2), (19, irK s 3)], .tup [insS (insR (wordsR s)).1, .b (insR (wordsR s)).2], []⟩
noncomputable def b24 : Code := Tryz.f24.body.getD .skip
noncomputable def l24 : List (FuncId × Ctr cod) := [(9, mkCtr mayD), (10, mkCtr fdD), (11, wordsCtr), (32, splitRCtr), (33, mkCtr nrD)]

/-! ### Parse -/
def refO (l : List UInt8) : Option Ins := if (insR (wordsR l)).2 = true then some (insR (wordsR l)).1 else none
structure PrS where
  k : Nat
  f : Nat
  n : Nat
  q : List Ins
def prI (s : List UInt8) (x : PrS) : Prop :=
  s.length ≤ 20000 ∧ x.q.length ≤ 48 ∧ x.n ≤ x.k ∧ ((x.k ≤ s.length ∧ x.f ≤ x.k ∧ (10 : UInt8) ∉ (s.drop x.f).take (x.k - x.f) ∧ parseG refO (splitL 10 (s.drop x.f)) x.n x.q = parseG refO (splitL 10 s) 0 []) ∨ (x.k = s.length + 1 ∧ parseG refO (splitL 10 s) 0 [] = (x.q, 0, 0)))
def prC (s : List UInt8) : CutD cod := ⟨PrS, prI s, fun x => s.length + 1 - x.k,
  fun x => [(0, .s s), (5, .R 0), (6, .i .i64 (x.f : Int)), (7, .i .i64 ((x.n : Int) + 1)), (8, .i .i64 (x.k : Int))], fun x => [.rows 2 x.q true 0]⟩
def prF (s : List UInt8) (c t : Int) (q : List Ins) : FnD cod := ⟨[(6, prC s)], .tup [.R 0, .i .i64 c, .i .i64 t], [.rows 2 q true 0]⟩
noncomputable def b13 : Code := Tryz.f13.body.getD .skip
noncomputable def l13 : List (FuncId × Ctr cod) := [(24, mkCtr irD)]
end Go.Proofs.YtbbbpnaghipfmaaGreatDoor

/- Three runs together: what is owed at each cut. Printed by a program (gen_th.py). -/
import Derived.Test.YtmjjljngaefpaaaTg
namespace Go.Proofs.Ytmjjljngaefpaaa
open Go.RowKit Go.Am Go.Sy
open Go.IntKind (i64 u64)
set_option linter.unusedVariables false
def mpE (P : Prop) : Prop := eA 3 3 ∧ eA 1 1 ∧ eA 3 3 ∧ eA 0 0 ∧ eA 4 4 ∧ P
def meE (M N : XM) (P : Prop) : Prop := M.W = N.W ∧ M.steps = N.steps ∧ M.lk = N.lk ∧ M.la = N.la ∧ M.lv = N.lv ∧ M.ls = N.ls ∧ M.ld = N.ld ∧ P
def txE (R S : XM) (P : Prop) : Prop := mpE (R.th = S.th ∧ R.c = S.c ∧ eA 1000 1000 ∧ eA 32 32 ∧ R.rs = S.rs ∧ eA 32 32 ∧ R.ws = S.ws ∧ filtT R.ws = filtT S.ws ∧ R.asked = S.asked ∧ AVal.nils = AVal.nils ∧ eA R.life S.life ∧ eA R.job S.job ∧ eA R.part S.part ∧ (R.i : Int) = (S.i : Int) ∧ R.at_ = S.at_ ∧ R.row = S.row ∧ R.seen = S.seen ∧ R.val = S.val ∧
 R.value = S.value ∧ R.cause = S.cause ∧ R.stamp = S.stamp ∧ R.made = S.made ∧ eA R.bk S.bk ∧ eA R.bst S.bst ∧ R.bse = S.bse ∧ R.bsp = S.bsp ∧ R.rows = S.rows ∧ R.tk = S.tk ∧ AVal.bool R.ph = AVal.bool S.ph ∧ P)
def ruP (p : List Op) (R S : RM) (P : Prop) : Prop := txE R.X S.X (p = planL S ∧ (R.i : Int) = (S.i : Int) ∧ AVal.bool R.busy = AVal.bool S.busy ∧ R.end_ = S.end_ ∧ R.rd = S.rd ∧ P)
def rs (a : Bool) (R S : RM) (P : Prop) : Prop := bif a then ruP (planL R) R S P else (AVal.nilp = AVal.nilp ∧ P)
def nQ (R s : RM) (P : Prop) : Prop := R.X.rs = s.X.rs ∧ R.X.ws = s.X.ws ∧ R.X.rows = s.X.rows ∧ R.X.tk = s.X.tk ∧ R.X.W = s.X.W ∧ R.rd = s.rd ∧ mpE (planL R = planL s ∧ (R.i : Int) = (s.i : Int) ∧ AVal.bool R.busy = AVal.bool s.busy ∧ eA R.end_ s.end_ ∧ R.X.steps = s.X.steps ∧ R.X.lk = s.X.lk ∧ R.X.la = s.X.la ∧ R.X.lv = s.X.lv ∧ R.X.ls = s.X.ls ∧ R.X.ld = s.X.ld ∧ eA 32 32 ∧ filtT R.X.ws = filtT s.X.ws ∧ R.X.asked = s.X.asked ∧ eA 32 32 ∧
 mpE (R.X.th = s.X.th ∧ R.X.c = s.X.c ∧ eA 1000 1000 ∧ AVal.nils = AVal.nils ∧ eA R.X.life s.X.life ∧ eA R.X.job s.X.job ∧ eA R.X.part s.X.part ∧ (R.X.i : Int) = (s.X.i : Int) ∧ R.X.at_ = s.X.at_ ∧ R.X.row = s.X.row ∧ R.X.seen = s.X.seen ∧ R.X.val = s.X.val ∧ R.X.value = s.X.value ∧ R.X.cause = s.X.cause ∧ R.X.stamp = s.X.stamp ∧ R.X.made = s.X.made ∧ eA R.X.bk s.X.bk ∧ eA R.X.bst s.X.bst ∧ R.X.bse = s.X.bse ∧ R.X.bsp = s.X.bsp ∧ AVal.bool R.X.ph = AVal.bool s.X.ph ∧ P))
abbrev QT := RM → Prop → Prop
section
variable (cl : Int) (l mv : List Int)
def leafA (a b c : Bool) (qa qb qc : QT) (M : XM) (sums : List Int) (n i : Int) (m0 : Nat) : Prop := ∃ s : LS,cl = cl ∧ l = l ∧ mv = mv ∧ mpE (meE M s.M (qa s.A (qb s.B (qc s.C (sums = s.sums ∧ n = (s.n : Int) ∧ i = (s.i : Int) ∧ StA cl l mv a b c s ∧ (600 - s.i) * 3 < m0 ∧ True)))))
def leafB (a b c : Bool) (x : LS) (t : Int) : Prop := ∃ s : LS,cl = cl ∧ l = l ∧ mv = mv ∧ mpE (meE x.M s.M (rs a x.A s.A (rs b x.B s.B (rs c x.C s.C (x.sums = s.sums ∧ (x.n : Int) = (s.n : Int) ∧ (x.i : Int) = (s.i : Int) ∧ eA t s.t ∧ StB cl l mv a b c s ∧ (600 - s.i) * 3 - 1 < (600 - x.i) * 3 ∧ True)))))
def pkX (t : Nat) (s : LS) : RM := match t with | 0 => s.A | 1 => s.B | _ => s.C
def leafT (t : Nat) (a b c : Bool) (qa qb qc : QT) (x : LS) (n : Int) : Prop := ∃ s : LS,cl = cl ∧ l = l ∧ mv = mv ∧ mpE (meE x.M (pkX t s).X (qa s.A (qb s.B (qc s.C (x.sums = s.sums ∧ n = (s.n : Int) ∧ (x.i : Int) = (s.i : Int) ∧ eA (t : Int) (t : Int) ∧ StT cl l mv t a b c s ∧ (600 - s.i) * 3 - 2 < (600 - x.i) * 3 - 1 ∧ True)))))
def deadQ : Prop := ([] : List Int) = sumsG cl l mv ∧ AVal.bool false = AVal.bool true ∧ True
def finQ (x : LS) : Prop := dataD.pre (mp1,(0 : Int),()) ∧ peekD.pre (Mw.mk x.M.W,(26 : Int),()) ∧ dataD.pre (mp1,(1 : Int),()) ∧ peekD.pre (Mw.mk x.M.W,(28 : Int),()) ∧ dataD.pre (mp1,(2 : Int),()) ∧ peekD.pre (Mw.mk x.M.W,(30 : Int),()) ∧ dataD.pre (mp1,(3 : Int),()) ∧ peekD.pre (Mw.mk x.M.W,(32 : Int),()) ∧
 ((x.A.end_ == 0) = true → deadQ cl l mv) ∧ ((x.A.end_ == 0) = false → threadD.pre (mp1,(0 : Int),(0 : Int),()) ∧ peekD.pre (Mw.mk x.M.W,(11 : Int),()) ∧ ((at0 x.M.W 11 != 0) = true → deadQ cl l mv) ∧ ((at0 x.M.W 11 != 0) = false →
 ((x.B.end_ == 0) = true → deadQ cl l mv) ∧ ((x.B.end_ == 0) = false → threadD.pre (mp1,(1 : Int),(0 : Int),()) ∧ peekD.pre (Mw.mk x.M.W,(13 : Int),()) ∧ ((at0 x.M.W 13 != 0) = true → deadQ cl l mv) ∧ ((at0 x.M.W 13 != 0) = false →
 ((x.C.end_ == 0) = true → deadQ cl l mv) ∧ ((x.C.end_ == 0) = false → threadD.pre (mp1,(2 : Int),(0 : Int),()) ∧ peekD.pre (Mw.mk x.M.W,(15 : Int),()) ∧ ((at0 x.M.W 15 != 0) = true → deadQ cl l mv) ∧ ((at0 x.M.W 15 != 0) = false →
 x.sums = sumsG cl l mv ∧ AVal.bool (i64.wrap (i64.wrap (i64.wrap (i64.wrap (0 + at0 x.M.W 26) + at0 x.M.W 28) + at0 x.M.W 30) + at0 x.M.W 32) == 40) = AVal.bool true ∧ True))))))
def noQ : Prop := dataD.pre (mp1,(0 : Int),()) ∧ Stuck "no"
def tM (x : LS) : Int := i64.wrap ((u64.wrap (at0 l (x.i : Int))).tmod 3)
def headQ (a b c : Bool) (x : LS) (fin : Prop) : Prop := (decide ((x.i : Int) < i64.wrap ((l.length : Int) + 300)) = true → (decide ((x.i : Int) < (l.length : Int)) = true → (0 ≤ (x.i : Int) ∧ (x.i : Int) < (l.length : Int)) ∧ leafB cl l mv a b c x (tM l x)) ∧ (decide ((x.i : Int) < (l.length : Int)) = false → leafB cl l mv a b c x ((x.i : Int).tmod 3))) ∧
 (decide ((x.i : Int) < i64.wrap ((l.length : Int) + 300)) = false → fin)
def begQ (t : Nat) (P : Prop) : Prop := threadD.pre (mp1,(t : Int),(0 : Int),()) ∧ (decide (cl < 1) = true → deadQ cl l mv) ∧ (decide (cl < 1) = false → (decide (cl > 2) = true → deadQ cl l mv) ∧ (decide (cl > 2) = false → P))
def newR (t : Nat) : RM := ⟨newX (t : Int) cl,false,0,0,0,0,false,0,[]⟩
def plR : List Op := [⟨0,0,0⟩,⟨0,1,0⟩,⟨0,2,0⟩,⟨0,3,0⟩]
def mvU (x : LS) : Int := u64.wrap (at0 mv ((x.n : Int).tmod (mv.length : Int)))
def mvf (x : LS) : Int := i64.wrap ((mvU mv x).tmod 4)
def mvg (x : LS) : Int := i64.wrap ((u64.wrap ((mvU mv x).tdiv 4)).tmod 3)
def mvm (x : LS) : Int := i64.wrap ((u64.wrap ((mvU mv x).tdiv 12)).tmod 5)
def plM (f g m : Int) : List Op := [⟨0,f,0⟩,⟨0,g,0⟩,⟨1,f,i64.wrap (0 - m)⟩,⟨1,g,m⟩]
def reaQ (t : Nat) (L : QT → Int → Prop) (x : LS) : Prop := begQ cl l mv t (L (ruP plR (newR cl t)) (x.n : Int))
def movQ (t : Nat) (L : QT → Int → Prop) (x : LS) : Prop := (decide ((mv.length : Int) > 0) = true → (mv.length : Int) ≠ 0 ∧ (0 ≤ (x.n : Int).tmod (mv.length : Int) ∧ (x.n : Int).tmod (mv.length : Int) < (mv.length : Int)) ∧ (decide (mvg mv x ≥ mvf mv x) = true → begQ cl l mv t (L (ruP (plM (mvf mv x) (i64.wrap (mvg mv x + 1)) (mvm mv x)) (newR cl t)) (i64.wrap ((x.n : Int) + 1)))) ∧
 (decide (mvg mv x ≥ mvf mv x) = false → begQ cl l mv t (L (ruP (plM (mvf mv x) (mvg mv x) (mvm mv x)) (newR cl t)) (i64.wrap ((x.n : Int) + 1))))) ∧ (decide ((mv.length : Int) > 0) = false → reaQ cl l mv t L x)
def staQ (t : Nat) (L : QT → Int → Prop) (x : LS) : Prop := match t with | 0 => reaQ cl l mv 0 L x | t + 1 => movQ cl l mv (t + 1) L x
def hadQ (t : Nat) (R : RM) (L : QT → Int → Prop) (x : LS) : Prop := ((R.end_ != 0) = true → (decide ((x.i : Int) < (l.length : Int)) = true → staQ cl l mv t L x) ∧ (decide ((x.i : Int) < (l.length : Int)) = false → L (rs true R) (x.n : Int))) ∧ ((R.end_ != 0) = false → L (rs true R) (x.n : Int))
def emp (R : RM) : RM := { R with X := { R.X with rs := [],ws := [],rows := [],tk := [],asked := 0 } }
def s4 (rd : List Wo) : Int := i64.wrap (i64.wrap (i64.wrap (i64.wrap (0 + (at3 rd 0).vl) + (at3 rd 1).vl) + (at3 rd 2).vl) + (at3 rd 3).vl)
def rdB4 (rd : List Wo) (k : Int) : Prop := 0 ≤ k ∧ k < (rd.length : Int)
def sumQ (R y : RM) (sums : List Int) (L : List Int → Prop) : Prop := (((y.rd.length : Int) == 4) = true → (((R.rd.length : Int) == 3) = true → rdB4 y.rd 0 ∧ rdB4 y.rd 0 ∧ rdB4 y.rd 1 ∧ rdB4 y.rd 1 ∧ rdB4 y.rd 2 ∧ rdB4 y.rd 2 ∧ rdB4 y.rd 3 ∧ rdB4 y.rd 3 ∧ (sums.length + [s4 y.rd].length) * 8 ≤ 140737488355328 ∧ L (sums ++ [s4 y.rd])) ∧ (((R.rd.length : Int) == 3) = false → L sums)) ∧ (((y.rd.length : Int) == 4) = false → L sums)
def aftT (t : Nat) (R y : RM) (sums : List Int) (L : List Int → Prop) : Prop := match t with | 0 => sumQ R y sums L | _ + 1 => L sums
def pickQ (t : Nat) (R : RM) (x : LS) (L : QT → XM → List Int → Prop) : Prop := ∃ s : RM,nQ R s (NX s ∧ (∀ y : RM,y = nextR s → aftT t R y x.sums (L (rs true y) y.X)) ∧ (∀ y : RM,y = nextR s → aftT t R y x.sums (L (rs true y) y.X)) ∧ (∀ y : RM,nB s y → aftT t R y x.sums (L (rs true (emp y)) y.X)) ∧ True)
end
variable (cl : Int) (l mv : List Int) (x : LS)
theorem g_e : Tree.holds (eG cl l mv) = (dataD.pre (mp1,(0 : Int),()) ∧ badD.pre (Mw.mk (List.replicate 34 0),(26 : Int),()) ∧ dataD.pre (mp1,(1 : Int),()) ∧ badD.pre (Mw.mk ((List.replicate 34 0).set 26 10),(28 : Int),()) ∧ dataD.pre (mp1,(2 : Int),()) ∧ badD.pre (Mw.mk (((List.replicate 34 0).set 26 10).set 28 10),(30 : Int),()) ∧ dataD.pre (mp1,(3 : Int),()) ∧ badD.pre (Mw.mk ((((List.replicate 34 0).set 26 10).set 28 10).set 30 10),(32 : Int),()) ∧
 ∃ s : LS,cl = cl ∧ l = l ∧ mv = mv ∧ mpE (meE M10 s.M (rs false s.A s.A (rs false s.A s.A (rs false s.A s.A ([] = s.sums ∧ 0 = (s.n : Int) ∧ 0 = (s.i : Int) ∧ StA cl l mv false false false s ∧ True)))))) := by kernel_rfl
theorem gA000 : Tree.holds (cG cl l mv 13 (cutA cl l mv false false false) x) = headQ cl l mv false false false x noQ := by kernel_rfl
theorem gA001 : Tree.holds (cG cl l mv 13 (cutA cl l mv false false true) x) = headQ cl l mv false false true x noQ := by kernel_rfl
theorem gA010 : Tree.holds (cG cl l mv 13 (cutA cl l mv false true false) x) = headQ cl l mv false true false x noQ := by kernel_rfl
theorem gA011 : Tree.holds (cG cl l mv 13 (cutA cl l mv false true true) x) = headQ cl l mv false true true x noQ := by kernel_rfl
theorem gA100 : Tree.holds (cG cl l mv 13 (cutA cl l mv true false false) x) = headQ cl l mv true false false x noQ := by kernel_rfl
theorem gA101 : Tree.holds (cG cl l mv 13 (cutA cl l mv true false true) x) = headQ cl l mv true false true x noQ := by kernel_rfl
theorem gA110 : Tree.holds (cG cl l mv 13 (cutA cl l mv true true false) x) = headQ cl l mv true true false x noQ := by kernel_rfl
theorem gA111 : Tree.holds (cG cl l mv 13 (cutA cl l mv true true true) x) = headQ cl l mv true true true x (finQ cl l mv x) := by kernel_rfl
theorem gB0000 : Tree.holds (cG cl l mv 18 (cutB cl l mv false false false) { x with t := 0 }) = staQ cl l mv 0 (fun q n => leafT cl l mv 0 true false false q (rs false x.B) (rs false x.C) x n) x := by kernel_rfl
theorem gB0001 : Tree.holds (cG cl l mv 18 (cutB cl l mv false false false) { x with t := 1 }) = staQ cl l mv 1 (fun q n => leafT cl l mv 1 false true false (rs false x.A) q (rs false x.C) x n) x := by kernel_rfl
theorem gB0002 : Tree.holds (cG cl l mv 18 (cutB cl l mv false false false) { x with t := 2 }) = staQ cl l mv 2 (fun q n => leafT cl l mv 2 false false true (rs false x.A) (rs false x.B) q x n) x := by kernel_rfl
theorem gB0010 : Tree.holds (cG cl l mv 18 (cutB cl l mv false false true) { x with t := 0 }) = staQ cl l mv 0 (fun q n => leafT cl l mv 0 true false true q (rs false x.B) (rs true x.C) x n) x := by kernel_rfl
theorem gB0011 : Tree.holds (cG cl l mv 18 (cutB cl l mv false false true) { x with t := 1 }) = staQ cl l mv 1 (fun q n => leafT cl l mv 1 false true true (rs false x.A) q (rs true x.C) x n) x := by kernel_rfl
theorem gB0012 : Tree.holds (cG cl l mv 18 (cutB cl l mv false false true) { x with t := 2 }) = hadQ cl l mv 2 x.C (fun q n => leafT cl l mv 2 false false true (rs false x.A) (rs false x.B) q x n) x := by kernel_rfl
theorem gB0100 : Tree.holds (cG cl l mv 18 (cutB cl l mv false true false) { x with t := 0 }) = staQ cl l mv 0 (fun q n => leafT cl l mv 0 true true false q (rs true x.B) (rs false x.C) x n) x := by kernel_rfl
theorem gB0101 : Tree.holds (cG cl l mv 18 (cutB cl l mv false true false) { x with t := 1 }) = hadQ cl l mv 1 x.B (fun q n => leafT cl l mv 1 false true false (rs false x.A) q (rs false x.C) x n) x := by kernel_rfl
theorem gB0102 : Tree.holds (cG cl l mv 18 (cutB cl l mv false true false) { x with t := 2 }) = staQ cl l mv 2 (fun q n => leafT cl l mv 2 false true true (rs false x.A) (rs true x.B) q x n) x := by kernel_rfl
theorem gB0110 : Tree.holds (cG cl l mv 18 (cutB cl l mv false true true) { x with t := 0 }) = staQ cl l mv 0 (fun q n => leafT cl l mv 0 true true true q (rs true x.B) (rs true x.C) x n) x := by kernel_rfl
theorem gB0111 : Tree.holds (cG cl l mv 18 (cutB cl l mv false true true) { x with t := 1 }) = hadQ cl l mv 1 x.B (fun q n => leafT cl l mv 1 false true true (rs false x.A) q (rs true x.C) x n) x := by kernel_rfl
theorem gB0112 : Tree.holds (cG cl l mv 18 (cutB cl l mv false true true) { x with t := 2 }) = hadQ cl l mv 2 x.C (fun q n => leafT cl l mv 2 false true true (rs false x.A) (rs true x.B) q x n) x := by kernel_rfl
theorem gB1000 : Tree.holds (cG cl l mv 18 (cutB cl l mv true false false) { x with t := 0 }) = hadQ cl l mv 0 x.A (fun q n => leafT cl l mv 0 true false false q (rs false x.B) (rs false x.C) x n) x := by kernel_rfl
theorem gB1001 : Tree.holds (cG cl l mv 18 (cutB cl l mv true false false) { x with t := 1 }) = staQ cl l mv 1 (fun q n => leafT cl l mv 1 true true false (rs true x.A) q (rs false x.C) x n) x := by kernel_rfl
theorem gB1002 : Tree.holds (cG cl l mv 18 (cutB cl l mv true false false) { x with t := 2 }) = staQ cl l mv 2 (fun q n => leafT cl l mv 2 true false true (rs true x.A) (rs false x.B) q x n) x := by kernel_rfl
theorem gB1010 : Tree.holds (cG cl l mv 18 (cutB cl l mv true false true) { x with t := 0 }) = hadQ cl l mv 0 x.A (fun q n => leafT cl l mv 0 true false true q (rs false x.B) (rs true x.C) x n) x := by kernel_rfl
theorem gB1011 : Tree.holds (cG cl l mv 18 (cutB cl l mv true false true) { x with t := 1 }) = staQ cl l mv 1 (fun q n => leafT cl l mv 1 true true true (rs true x.A) q (rs true x.C) x n) x := by kernel_rfl
theorem gB1012 : Tree.holds (cG cl l mv 18 (cutB cl l mv true false true) { x with t := 2 }) = hadQ cl l mv 2 x.C (fun q n => leafT cl l mv 2 true false true (rs true x.A) (rs false x.B) q x n) x := by kernel_rfl
theorem gB1100 : Tree.holds (cG cl l mv 18 (cutB cl l mv true true false) { x with t := 0 }) = hadQ cl l mv 0 x.A (fun q n => leafT cl l mv 0 true true false q (rs true x.B) (rs false x.C) x n) x := by kernel_rfl
theorem gB1101 : Tree.holds (cG cl l mv 18 (cutB cl l mv true true false) { x with t := 1 }) = hadQ cl l mv 1 x.B (fun q n => leafT cl l mv 1 true true false (rs true x.A) q (rs false x.C) x n) x := by kernel_rfl
theorem gB1102 : Tree.holds (cG cl l mv 18 (cutB cl l mv true true false) { x with t := 2 }) = staQ cl l mv 2 (fun q n => leafT cl l mv 2 true true true (rs true x.A) (rs true x.B) q x n) x := by kernel_rfl
theorem gB1110 : Tree.holds (cG cl l mv 18 (cutB cl l mv true true true) { x with t := 0 }) = hadQ cl l mv 0 x.A (fun q n => leafT cl l mv 0 true true true q (rs true x.B) (rs true x.C) x n) x := by kernel_rfl
theorem gB1111 : Tree.holds (cG cl l mv 18 (cutB cl l mv true true true) { x with t := 1 }) = hadQ cl l mv 1 x.B (fun q n => leafT cl l mv 1 true true true (rs true x.A) q (rs true x.C) x n) x := by kernel_rfl
theorem gB1112 : Tree.holds (cG cl l mv 18 (cutB cl l mv true true true) { x with t := 2 }) = hadQ cl l mv 2 x.C (fun q n => leafT cl l mv 2 true true true (rs true x.A) (rs true x.B) q x n) x := by kernel_rfl
theorem gT0100 : Tree.holds (cG cl l mv 30 (cutT cl l mv 0 true false false) x) = pickQ 0 x.A x (fun q M sums => leafA cl l mv true false false q (rs false x.B) (rs false x.C) M sums (x.n : Int) (i64.wrap ((x.i : Int) + 1)) ((600 - x.i) * 3 - 2)) := by kernel_rfl
theorem gT0101 : Tree.holds (cG cl l mv 30 (cutT cl l mv 0 true false true) x) = pickQ 0 x.A x (fun q M sums => leafA cl l mv true false true q (rs false x.B) (rs true x.C) M sums (x.n : Int) (i64.wrap ((x.i : Int) + 1)) ((600 - x.i) * 3 - 2)) := by kernel_rfl
theorem gT0110 : Tree.holds (cG cl l mv 30 (cutT cl l mv 0 true true false) x) = pickQ 0 x.A x (fun q M sums => leafA cl l mv true true false q (rs true x.B) (rs false x.C) M sums (x.n : Int) (i64.wrap ((x.i : Int) + 1)) ((600 - x.i) * 3 - 2)) := by kernel_rfl
theorem gT0111 : Tree.holds (cG cl l mv 30 (cutT cl l mv 0 true true true) x) = pickQ 0 x.A x (fun q M sums => leafA cl l mv true true true q (rs true x.B) (rs true x.C) M sums (x.n : Int) (i64.wrap ((x.i : Int) + 1)) ((600 - x.i) * 3 - 2)) := by kernel_rfl
theorem gT1010 : Tree.holds (cG cl l mv 30 (cutT cl l mv 1 false true false) x) = pickQ 1 x.B x (fun q M sums => leafA cl l mv false true false (rs false x.A) q (rs false x.C) M sums (x.n : Int) (i64.wrap ((x.i : Int) + 1)) ((600 - x.i) * 3 - 2)) := by kernel_rfl
theorem gT1011 : Tree.holds (cG cl l mv 30 (cutT cl l mv 1 false true true) x) = pickQ 1 x.B x (fun q M sums => leafA cl l mv false true true (rs false x.A) q (rs true x.C) M sums (x.n : Int) (i64.wrap ((x.i : Int) + 1)) ((600 - x.i) * 3 - 2)) := by kernel_rfl
theorem gT1110 : Tree.holds (cG cl l mv 30 (cutT cl l mv 1 true true false) x) = pickQ 1 x.B x (fun q M sums => leafA cl l mv true true false (rs true x.A) q (rs false x.C) M sums (x.n : Int) (i64.wrap ((x.i : Int) + 1)) ((600 - x.i) * 3 - 2)) := by kernel_rfl
theorem gT1111 : Tree.holds (cG cl l mv 30 (cutT cl l mv 1 true true true) x) = pickQ 1 x.B x (fun q M sums => leafA cl l mv true true true (rs true x.A) q (rs true x.C) M sums (x.n : Int) (i64.wrap ((x.i : Int) + 1)) ((600 - x.i) * 3 - 2)) := by kernel_rfl
theorem gT2001 : Tree.holds (cG cl l mv 30 (cutT cl l mv 2 false false true) x) = pickQ 2 x.C x (fun q M sums => leafA cl l mv false false true (rs false x.A) (rs false x.B) q M sums (x.n : Int) (i64.wrap ((x.i : Int) + 1)) ((600 - x.i) * 3 - 2)) := by kernel_rfl
theorem gT2011 : Tree.holds (cG cl l mv 30 (cutT cl l mv 2 false true true) x) = pickQ 2 x.C x (fun q M sums => leafA cl l mv false true true (rs false x.A) (rs true x.B) q M sums (x.n : Int) (i64.wrap ((x.i : Int) + 1)) ((600 - x.i) * 3 - 2)) := by kernel_rfl
theorem gT2101 : Tree.holds (cG cl l mv 30 (cutT cl l mv 2 true false true) x) = pickQ 2 x.C x (fun q M sums => leafA cl l mv true false true (rs true x.A) (rs false x.B) q M sums (x.n : Int) (i64.wrap ((x.i : Int) + 1)) ((600 - x.i) * 3 - 2)) := by kernel_rfl
theorem gT2111 : Tree.holds (cG cl l mv 30 (cutT cl l mv 2 true true true) x) = pickQ 2 x.C x (fun q M sums => leafA cl l mv true true true (rs true x.A) (rs true x.B) q M sums (x.n : Int) (i64.wrap ((x.i : Int) + 1)) ((600 - x.i) * 3 - 2)) := by kernel_rfl
end Go.Proofs.Ytmjjljngaefpaaa

/- A pick of a run: its contract: states ahead, states behind. -/
import Derived.Test.YtmjjljngaefpaaaNc
namespace Go.Proofs.Ytmjjljngaefpaaa
open Go.RowKit Go.Am Go.Sy
open Go.IntKind (i64 u64)
set_option linter.unusedVariables false
structure EX (R : RM) : Prop where
 end_ : R.end_ = 0 ∨ R.end_ = 1 ∨ R.end_ = 2
 new : R.end_ = 0 → R.busy = false → R.i = 0 → R.X.life = 0
 busy : R.end_ = 0 → R.busy = true → 0 < R.i ∧ (R.mv = true → R.i ≤ 2 ∨ R.i = 5) ∧ ¬(R.X.job = 4 ∧ R.X.part = 4)
structure NX (R : RM) : Prop where
 ri : ∃ n,RI n R ∧ MI n R.X.W
 pl : R.mv = true → PlOk R
 ex : EX R
def xWsN (k : Nat) (s : XM) : Ob := .cells [li 32,.R k,.i .u64 (filtT s.ws),iv s.asked]
def nOut (r : Nat) (R : RM) (h : SH cod) : SH cod := [some (xTx ⟨33,34,35⟩ R.X),some (xRs ⟨33,34,35⟩),some (xWsN 37 R.X),none,none,none,none,some (xMem R.X),some (.rows 0 R.X.W false 8),some (runO (planL R) R (.R 36)),none] ++ h.drop 11 ++
 [some (.rows 3 R.X.rs false 3),some (.rows 0 R.X.rows false r),some (.rows 3 R.X.tk false 6),some (.rows 3 R.rd false 10),some (.rows 3 R.X.ws false 4)]
def xTxN (s : XM) : Ob := .cells [li 3,li 1,li 3,li 0,li 4,iv s.th,iv s.c,li 1000,.ptr 1 0,.ptr 2 0,ln,li s.life,li s.job,li s.part,iv (s.i : Int),iv s.at_,iv s.row,iv s.seen,iv s.val,.any,iv s.value,iv s.cause,iv s.stamp,iv s.made,li s.bk,li s.bst,iv s.bse,iv s.bsp,ln,ln,lb s.ph]
def nBeg (R : RM) (h : SH cod) : SH cod := [some (xTxN R.X),some (.cells [li 32,ln]),some (.cells [li 32,ln,.a (.int .u64 0),li 0]),none,none,none,none,some (xMem R.X),some (.rows 0 R.X.W false 8),some (runO (planL R) R (.R 33)),none] ++ h.drop 11 ++ [some (.rows 3 R.rd false 10)]
def nSel (_ : V) (h : SH cod) : Nat := match hget h 0 with
 | some (.cells tx) => match tx.getD 28 .any with
  | .R k => match hget h k with
   | some (.rows _ _ _ 5) => 0
   | _ => 1
  | _ => 2
 | _ => 3
def nB (R R' : RM) : Prop := R' = nextR R ∧ R'.X.rs = [] ∧ R'.X.ws = [] ∧ R'.X.rows = [] ∧ R'.X.tk = [] ∧ R'.X.asked = 0
def nextD : FrD cod := ⟨33,nFoot,RM,NX,fun _ => nArgs,fun R => nInP (planL R) R,[⟨RM,fun R R' => R' = nextR R,fun _ => .any,nOut 5⟩,⟨RM,fun R R' => R' = nextR R,fun _ => .any,nOut 47⟩,⟨RM,nB,fun _ => .any,nBeg⟩],nSel⟩
end Go.Proofs.Ytmjjljngaefpaaa
/- A pick of a run: what is behind it is told. Printed by a program (gen_nf.py). -/
namespace Go.Proofs.Ytmjjljngaefpaaa
open Go.RowKit Go.Am Go.Sy
open Go.IntKind (i64 u64)
set_option linter.unusedVariables false
def rQ (p : List Op) (i : Int) (b : Bool) (e : Int) (rd : List Wo) (fl : Int) (y : XM) (s : RM) (P : Prop) : Prop := y.W = s.X.W ∧ p = planL s ∧ i = (s.i : Int) ∧ AVal.bool b = AVal.bool s.busy ∧ eA e s.end_ ∧ rd = s.rd ∧ y.steps = s.X.steps ∧ y.lk = s.X.lk ∧ y.la = s.X.la ∧ y.lv = s.X.lv ∧ y.ls = s.X.ls ∧ y.ld = s.X.ld ∧ eA 32 32 ∧
 y.ws = s.X.ws ∧ fl = filtT s.X.ws ∧ y.asked = s.X.asked ∧ eA 32 32 ∧ y.rs = s.X.rs ∧ eA 3 3 ∧ eA 1 1 ∧ eA 3 3 ∧ eA 0 0 ∧ eA 4 4 ∧ y.th = s.X.th ∧ y.c = s.X.c ∧ eA 1000 1000 ∧ AVal.nils = AVal.nils ∧ eA y.life s.X.life ∧ eA y.job s.X.job ∧ eA y.part s.X.part ∧ (y.i : Int) = (s.X.i : Int) ∧ y.at_ = s.X.at_ ∧ y.row = s.X.row ∧ y.seen = s.X.seen ∧ y.val = s.X.val ∧
 y.value = s.X.value ∧ y.cause = s.X.cause ∧ y.stamp = s.X.stamp ∧ y.made = s.X.made ∧ eA y.bk s.X.bk ∧ eA y.bst s.X.bst ∧ y.bse = s.X.bse ∧ y.bsp = s.X.bsp ∧ y.rows = s.X.rows ∧ y.tk = s.X.tk ∧ AVal.bool y.ph = AVal.bool s.X.ph ∧ P
theorem rQ_mk (s : RM) {P : Prop} (h : P) : rQ (planL s) (s.i : Int) s.busy s.end_ s.rd (filtT s.X.ws) s.X s P := ⟨rfl,rfl,rfl,rfl,rfl,rfl,rfl,rfl,rfl,rfl,rfl,rfl,rfl,rfl,rfl,rfl,rfl,rfl,rfl,rfl,rfl,rfl,rfl,rfl,rfl,rfl,rfl,rfl,rfl,rfl,rfl,rfl,rfl,rfl,rfl,rfl,rfl,rfl,rfl,rfl,rfl,rfl,rfl,rfl,rfl,rfl,h⟩
theorem fS1 (R : RM) (y : XM) (p : List Op) (i : Int) (b : Bool) (e : Int) (rd : List Wo) (t : SH cod) (o : Nat → Option Ob) : Tree.holds (frFin nextD R (hpF o 0 33) (.tup []) (heS y (runI p i b e (.R 10)) (some (.rows 3 rd false 10)) (hpF o 11 22) 1 t)) = ∃ s : RM,rQ p i b e rd (filtT y.ws) y s (oE (dsF o 32 22) (s = nextR R ∧ True)) := by kernel_rfl
theorem fA1 (R : RM) (y : XM) (p : List Op) (i : Int) (b : Bool) (e : Int) (rd : List Wo) (x : Option Ob) (o : Nat → Option Ob) : Tree.holds (frFin nextD R (hpF o 0 33) (.tup []) (heS y (runI p i b e (.R 65)) none (hpF o 11 22) 1 [bxO,x,some (.rows 3 rd false 10)])) = ∃ s : RM,rQ p i b e rd (filtT y.ws) y s (oE (dsF o 32 22) (s = nextR R ∧ True)) := by kernel_rfl
theorem fS2 (R : RM) (y : XM) (p : List Op) (i : Int) (b : Bool) (e : Int) (rd : List Wo) (t : SH cod) (o : Nat → Option Ob) : Tree.holds (frFin nextD R (hpF o 0 33) (.tup []) (heS y (runI p i b e (.R 10)) (some (.rows 3 rd false 10)) (hpF o 11 22) 2 t)) = ∃ s : RM,rQ p i b e rd (filtT y.ws) y s (oE (dsF o 32 22) (s = nextR R ∧ True)) := by kernel_rfl
theorem fA2 (R : RM) (y : XM) (p : List Op) (i : Int) (b : Bool) (e : Int) (rd : List Wo) (x : Option Ob) (o : Nat → Option Ob) : Tree.holds (frFin nextD R (hpF o 0 33) (.tup []) (heS y (runI p i b e (.R 65)) none (hpF o 11 22) 2 [bxO,x,some (.rows 3 rd false 10)])) = ∃ s : RM,rQ p i b e rd (filtT y.ws) y s (oE (dsF o 32 22) (s = nextR R ∧ True)) := by kernel_rfl
theorem fO (R S : RM) (p : List Op) (o : Nat → Option Ob) : Tree.holds (frFin nextD R (hpF o 0 33) (.tup []) (nInP p S (hpF o 0 33) ++ [bxO])) = ∃ s : RM,rQ p (S.i : Int) S.busy S.end_ S.rd (filtT S.X.ws) S.X s (oE (dsF o 32 22) (s = nextR R ∧ True)) := by kernel_rfl
theorem no1 (S : RM) (p : List Op) (o : Nat → Option Ob) (K : KT) : Tree.holds (nextL lX 0 nArgs (nInP p { S with end_ := 1 } (hpF o 0 33)) K) = (K (.tup []) (nInP p { S with end_ := 1 } (hpF o 0 33) ++ [bxO])).holds := by kernel_rfl
theorem no2 (S : RM) (p : List Op) (o : Nat → Option Ob) (K : KT) : Tree.holds (nextL lX 0 nArgs (nInP p { S with end_ := 2 } (hpF o 0 33)) K) = (K (.tup []) (nInP p { S with end_ := 2 } (hpF o 0 33) ++ [bxO])).holds := by kernel_rfl
theorem fB (R : RM) (X : XM) (p : List Op) (i e : Int) (rd : List Wo) (o : Nat → Option Ob) : Tree.holds (frFin nextD R (hpF o 0 33) (.tup []) (heB X (runI p i false e (.R 10)) rd (hpF o 11 22))) = ∃ s : RM,X.W = s.X.W ∧ p = planL s ∧ i = (s.i : Int) ∧ AVal.bool false = AVal.bool s.busy ∧ eA e s.end_ ∧ rd = s.rd ∧ i64.wrap (X.steps + 1) = s.X.steps ∧ 1 = s.X.lk ∧ 0 = s.X.la ∧ at0 X.W 0 = s.X.lv ∧ at0 X.W 0 = s.X.ls ∧ true = s.X.ld ∧ eA 32 32 ∧
 AVal.nils = AVal.nils ∧ AVal.int .u64 0 = AVal.int .u64 0 ∧ eA 0 0 ∧ eA 32 32 ∧ AVal.nils = AVal.nils ∧ eA 3 3 ∧ eA 1 1 ∧ eA 3 3 ∧ eA 0 0 ∧ eA 4 4 ∧ X.th = s.X.th ∧ X.c = s.X.c ∧ eA 1000 1000 ∧ AVal.nils = AVal.nils ∧ eA 1 s.X.life ∧ eA 0 s.X.job ∧ eA 0 s.X.part ∧ (0 : Int) = (s.X.i : Int) ∧ X.at_ = s.X.at_ ∧ X.row = s.X.row ∧ X.seen = s.X.seen ∧ X.val = s.X.val ∧
 0 = s.X.value ∧ 0 = s.X.cause ∧ at0 X.W 0 = s.X.stamp ∧ 0 = s.X.made ∧ eA X.bk s.X.bk ∧ eA X.bst s.X.bst ∧ X.bse = s.X.bse ∧ X.bsp = s.X.bsp ∧ AVal.nils = AVal.nils ∧ AVal.nils = AVal.nils ∧ AVal.bool false = AVal.bool s.X.ph ∧ oE (dsF o 32 22) (nB R s ∧ True) := by kernel_rfl
theorem f0 (R : RM) (X : XM) (p : List Op) (i : Int) (rd : List Wo) (o : Nat → Option Ob) : Tree.holds (frFin nextD R (hpF o 0 33) (.tup []) (heC X 2 11 [li X.bk,li X.bst,iv X.bse,iv X.bsp] (.R 5) (.R 4) (filtT X.ws) (some (.rows 3 X.ws false 4)) (runI p i true 0 (.R 10)) (some (.rows 3 rd false 10)) (hpF o 11 22) [bxO,bxO])) = ∃ s : RM,rQ p i true 0 rd (filtT X.ws) { stX (11 + 2 * X.th) 2 X with life := 2,job := 4,part := 11,i := 0,ph := true } s (oE (dsF o 32 22) (s = nextR R ∧ True)) := by kernel_rfl
theorem f5 (R : RM) (X : XM) (p : List Op) (i : Int) (rd ws : List Wo) (fl k : Int) (x1 x2 x3 x4 x5 x6 x7 x8 x9 x10 x11 x12 x13 x14 x15 : Option Ob) (o : Nat → Option Ob) : Tree.holds (frFin nextD R (hpF o 0 33) (.tup []) (heC X 1 5 [li k,li 0,li 0,li 0] (.R 47) (.R 42) fl none (runI p i true 0 (.R 10)) (some (.rows 3 rd false 10)) (hpF o 11 22) [x1,x2,x3,x4,x5,x6,x7,x8,x9,some (.rows 3 ws false 4),x11,x12,x13,x14,some (.rows 0 (wR ws) true 47),x15])) = ∃ s : RM,rQ p i true 0 rd fl { stX (11 + 2 * X.th) 2 X with life := 1,job := 4,part := 5,i := 0,ph := true,bk := k,bst := 0,bse := 0,bsp := 0,rows := wR ws,ws := ws } s (oE (dsF o 32 22) (s = nextR R ∧ True)) := by kernel_rfl
end Go.Proofs.Ytmjjljngaefpaaa
/- A pick of a run: its contract is sound. Printed by a program (gen_ng.py). -/
namespace Go.Proofs.Ytmjjljngaefpaaa
open Go.RowKit Go.Am Go.Sy
open Go.IntKind (i64 u64)
set_option linter.unusedVariables false
theorem rQ_of {p : List Op} {i : Int} {b : Bool} {e : Int} {rd : List Wo} {fl : Int} {y : XM} {s : RM} {P : Prop} {mv : Bool} {f g m : Int} {k : Nat} (h : s = ⟨y,mv,f,g,m,k,b,e,rd⟩) (hp : p = planL s) (hi : i = (k : Int)) (hf : fl = filtT y.ws) (hP : P) : rQ p i b e rd fl y s P := by
 subst h
 subst hp
 subst hi
 subst hf
 exact rQ_mk _ hP
theorem plan_len (R : RM) : (planL R).length = 4 := by unfold planL; cases R.mv <;> rfl
theorem i1_eq {i : Nat} (h0 : 0 < i) (h5 : i ≤ 5) : i1 i = ((i - 1 : Nat) : Int) := by
 unfold i1
 rw [wrap64 (by omega) (by omega)]
 omega
theorem wrap_1 {i : Nat} (h5 : i ≤ 5) : i64.wrap ((i : Int) + 1) = ((i + 1 : Nat) : Int) := by rw [wrap64 (by omega) (by omega)]; rfl
theorem kd_at (R : RM) (h0 : 0 < R.i) (h4 : R.i ≤ 4) : ((at2 (planL R) (i1 R.i)).kd == 0) = pRd R ∧ (pRd R = true → (at2 (planL R) (i1 R.i)).pl = pAt R) := by
 rw [i1_eq h0 (by omega),at2_get (by rw [plan_len]; omega)]
 obtain ⟨X,mv,f,g,m,i,busy,end_,rd⟩ := R
 have h0 : 0 < i := h0
 have h4 : i ≤ 4 := h4
 unfold planL pRd pAt
 have : i = 1 ∨ i = 2 ∨ i = 3 ∨ i = 4 := by omega
 cases mv <;> rcases this with rfl | rfl | rfl | rfl <;> simp
theorem next_b {R : RM} (he : R.end_ = 0) (hb : R.busy = true) : nextR R = stepR R := by
 unfold nextR askL
 rw [if_pos he,if_pos hb]
theorem aft_ok {K : KT} {os keep : List (Option Ob)} {n : Nat} {R0 Rk : RM} (HS : ∀ (y : XM) (p : List Op) (i : Int) (b : Bool) (e : Int) (rd : List Wo) (t : SH cod),(K (.tup []) (heS y (runI p i b e (.R 10)) (some (.rows 3 rd false 10)) os n t)).holds = ∃ s : RM,rQ p i b e rd (filtT y.ws) y s (oE keep (s = nextR R0 ∧ True)))
 (HA : ∀ (y : XM) (p : List Op) (i : Int) (b : Bool) (e : Int) (rd : List Wo) (x : Option Ob),(K (.tup []) (heS y (runI p i b e (.R 65)) none os n [bxO,x,some (.rows 3 rd false 10)])).holds = ∃ s : RM,rQ p i b e rd (filtT y.ws) y s (oE keep (s = nextR R0 ∧ True)))
 (hn : nextR R0 = stepR Rk) (he : Rk.end_ = 0) (hb : Rk.busy = true) (h0 : 0 < Rk.i) (h5 : Rk.i ≤ 5) (hk : (stepX Rk.X).code = 1 → Rk.i ≤ 4 → pRd Rk = true ∧ Rk.rd.length ≤ 4) : aftQ K (planL Rk) Rk.i Rk.rd os n (stepX Rk.X) := by
 have hS : ∀ (y : XM) (i : Nat) (b : Bool) (e : Int) (rd : List Wo) (t : SH cod),stepR Rk = ⟨y,Rk.mv,Rk.f,Rk.g,Rk.m,i,b,e,rd⟩ → ∀ j : Int,j = (i : Int) → (K (.tup []) (heS y (runI (planL Rk) j b e (.R 10)) (some (.rows 3 rd false 10)) os n t)).holds := fun y i b e rd t h j hj => by
  rw [HS]
  exact ⟨nextR R0,rQ_of (hn.trans h) (by rw [hn,h]; rfl) hj rfl (oE_mk ⟨rfl,trivial⟩ _)⟩
 have hA : ∀ (y : XM) (i : Nat) (b : Bool) (e : Int) (rd : List Wo) (x : Option Ob),stepR Rk = ⟨y,Rk.mv,Rk.f,Rk.g,Rk.m,i,b,e,rd⟩ → ∀ j : Int,j = (i : Int) → (K (.tup []) (heS y (runI (planL Rk) j b e (.R 65)) none os n [bxO,x,some (.rows 3 rd false 10)])).holds := fun y i b e rd x h j hj => by
  rw [HA]
  exact ⟨nextR R0,rQ_of (hn.trans h) (by rw [hn,h]; rfl) hj rfl (oE_mk ⟨rfl,trivial⟩ _)⟩
 have hin : Rk.i ≤ 4 → inP Rk.i (planL Rk) := fun h4 => by
  unfold inP
  rw [i1_eq h0 h5,plan_len]
  omega
 refine ⟨fun c1 => ?_,fun c1 => ⟨fun c2 => ?_,fun c2 => ?_⟩⟩
 ·have c1 : (stepX Rk.X).code = 1 := eq_of_beq c1
  have e1 := stepR_1 c1
  unfold doneR at e1
  refine ⟨fun g1 => ?_,fun g1 => ?_⟩
  ·have g1 := of_decide_eq_true g1
   rw [plan_len] at g1
   refine hS _ Rk.i _ _ _ _ ?_ _ rfl
   rw [e1,if_pos (by show 4 < Rk.i; omega)]
  ·have g1 := of_decide_eq_false g1
   rw [plan_len] at g1
   have h4 : Rk.i ≤ 4 := by omega
   obtain ⟨k1,k2⟩ := hk c1 h4
   obtain ⟨d1,d2⟩ := kd_at Rk h0 h4
   rw [if_neg (by show ¬ 4 < Rk.i; omega),if_pos (show 0 < ({ Rk with X := stepX Rk.X } : RM).i from h0)] at e1
   refine ⟨fun _ => ⟨hin h4,fun _ => ⟨hin h4, ?_, ?_⟩,fun g3 => ?_⟩,fun g2 => ?_⟩
   ·show (Rk.rd.length + 1) * 16 ≤ 140737488355328
    omega
   ·refine hA _ (Rk.i + 1) _ _ _ _ ?_ _ (wrap_1 h5)
    rw [e1,d2 k1,he]
    rfl
   ·rw [d1,k1] at g3
    cases g3
   ·exact absurd (of_decide_eq_false g2) (by omega)
 ·have c2 : (stepX Rk.X).code = 2 := eq_of_beq c2
  refine hS _ Rk.i _ _ _ _ ?_ _ rfl
  rw [stepR_2 c2,hb]
 ·refine hS _ Rk.i _ _ _ _ ?_ _ rfl
  unfold stepR
  rw [if_neg (fun h => by rw [h] at c1; cases c1),if_neg (fun h => by rw [h] at c2; cases c2),hb,he]
theorem lt_mono {T : Nat → Type} {n m : Nat} (h : n ≤ m) {x : SV T} (hx : ltV n x = true) : ltV m x = true := by
 have lt : ∀ {id : Nat},Nat.blt id n = true → Nat.blt id m = true := fun h1 => by rw [Nat.blt_eq] at h1 ⊢; omega
 cases x with
 | ptr _ _ => exact lt hx
 | ep _ _ _ => exact lt hx
 | sl _ _ _ _ _ _ => exact lt hx
 | R _ => exact lt hx
 | mapr _ => exact lt hx
 | any => rfl
 | a _ => rfl
 | i _ _ => rfl
 | b _ => rfl
 | s _ => rfl
 | tl _ _ => rfl
 | _ => cases hx
theorem ltOO_mono {n m : Nat} (h : n ≤ m) : ∀ {o : Option Ob},ltOO n o = true → ltOO m o = true
 | none,_ => rfl
 | some (.cells cs),ho => by
  unfold ltOO ltO at ho ⊢
  exact List.all_eq_true.2 fun x hx => lt_mono h (List.all_eq_true.1 ho x hx)
 | some (.mp es),ho => by
  unfold ltOO ltO at ho ⊢
  exact List.all_eq_true.2 fun x hx => lt_mono h (List.all_eq_true.1 ho x hx)
 | some (.rows _ _ _ _),_ => rfl
 | some (.it _ _),_ => rfl
theorem low_of {h : SH cod} (hl : h.length = 33) (hf : FrLow 33 nFoot h 33) : ∀ o,o ∈ (h.drop 11).reverse → ltOO 60 o = true := fun o ho => by
 rw [List.mem_reverse] at ho
 obtain ⟨k,hk,rfl⟩ := List.mem_iff_getElem.1 ho
 rw [List.length_drop] at hk
 rw [List.getElem_drop]
 have hb : nFoot (11 + k) = false := by
  unfold nFoot
  cases hb : Nat.blt (11 + k) 11 with
  | false => rfl
  | true => rw [Nat.blt_eq] at hb; omega
 have := hf (11 + k) (by omega) hb
 rw [List.getD_eq_getElem?_getD,List.getElem?_eq_getElem (by omega)] at this
 exact ltOO_mono (by decide) this
end Go.Proofs.Ytmjjljngaefpaaa

/- Tl2Two: an attempt of the program's, and the memory that it works on: how they lie in objects. -/
import Derived.Test.YtmjjljngaefpaaaPt
import Derived.Test.YtmjjljngaefpaaaLib4
namespace Go.Proofs.Ytmjjljngaefpaaa
open Go.RowKit Go.Am Go.Sy
open Go.IntKind (i64 u64)
set_option linter.unusedVariables false
abbrev V := SV cod.T
abbrev Ob := Go.Sy.Obj cod.T
def li (n : Int) : V := .a (.int .i64 n)
def lb (b : Bool) : V := .a (.bool b)
def ln : V := .a .nils
def iv (n : Int) : V := .i .i64 n
structure XM where
 code : Int
 th : Int
 c : Int
 life : Int
 job : Int
 part : Int
 i : Nat
 at_ : Int
 row : Int
 seen : Int
 val : Int
 value : Int
 cause : Int
 stamp : Int
 made : Int
 bk : Int
 bst : Int
 bse : Int
 bsp : Int
 ph : Bool
 rs : List Wo
 ws : List Wo
 asked : Int
 rows : List Int
 tk : List Wo
 W : List Int
 steps : Int
 lk : Int
 la : Int
 lv : Int
 ls : Int
 ld : Bool
 ybk : Int
 ybst : Int
 ybse : Int
 ybsp : Int
structure LN where
 rs : Nat
 rows : Nat
 tk : Nat
def xTx (L : LN) (s : XM) : Ob := .cells [li 3,li 1,li 3,li 0,li 4,iv s.th,iv s.c,li 1000,.ptr 1 0,.ptr 2 0,ln,li s.life,li s.job,li s.part,iv (s.i : Int),iv s.at_,iv s.row,iv s.seen,iv s.val,.any,iv s.value,iv s.cause,iv s.stamp,iv s.made,li s.bk,li s.bst,iv s.bse,iv s.bsp,.R L.rows,.R L.tk,lb s.ph]
def xRs (L : LN) : Ob := .cells [li 32,.R L.rs]
def xWs (s : XM) : Ob := .cells [li 32,.R 4,.i .u64 (filtT s.ws),iv s.asked]
def xMem (s : XM) : Ob := .cells [.R 8,iv s.steps,iv s.lk,iv s.la,iv s.lv,iv s.ls,.b s.ld]
def xIn (s : XM) (h : SH cod) : SH cod := [some (xTx ⟨3,5,6⟩ s),some (xRs ⟨3,5,6⟩),some (xWs s),some (.rows 3 s.rs false 3),some (.rows 3 s.ws false 4),some (.rows 0 s.rows false 5),some (.rows 3 s.tk false 6),some (xMem s),some (.rows 0 s.W false 8)] ++ h.drop 9
def xOut (n root : Nat) (s : XM) (h : SH cod) : SH cod := [some (xTx ⟨n,n + 1,n + 2⟩ s),some (xRs ⟨n,n + 1,n + 2⟩),some (xWs s),none,some (.rows 3 s.ws false 4),none,none,some (xMem s),some (.rows 0 s.W false 8)] ++ h.drop 9 ++ [some (.rows 3 s.rs false 3),some (.rows 0 s.rows false root),some (.rows 3 s.tk false 6)]
def xFoot (j : Nat) : Bool := Nat.blt j 9
def fresh0 (s : XM) : Prop := s.job = 4 ∧ s.part = 4 ∧ s.ws ≠ []
def ltB (a b : Int) : Bool := decide (a < b)
def gtB (a b : Int) : Bool := decide (a > b)
def geB (a b : Int) : Bool := decide (a ≥ b)
def eqB (a b : Int) : Bool := a == b
def tick (k a v : Int) (d : Bool) (s : XM) : XM := { s with steps := i64.wrap (s.steps + 1),lk := k,la := a,lv := v,ls := at0 s.W a,ld := d }
def ldX (a : Int) (s : XM) : XM := tick 1 a (at0 s.W a) true s
def stX (a v : Int) (s : XM) : XM := { tick 2 a v true s with W := s.W.set a.toNat v }
def swX (a o v : Int) (s : XM) : XM := { tick 3 a v (at0 s.W a == o) s with W := bif (at0 s.W a == o) then s.W.set a.toNat v else s.W }
def adX (v : Int) (s : XM) : XM := { tick 4 0 1 true s with W := s.W.set 0 v }
def abX (c : Int) (s : XM) : XM := bif s.ph then { s with life := 3,cause := c,made := 0,job := 5,part := 0,i := 0,code := 0 } else { s with life := 3,cause := c,made := 0,job := 0,part := 0,i := 0,code := 2 }
def deX (s : XM) : XM := { s with life := 2,part := bif ltB ((0 : Int)) ((s.ws.length : Int)) then 9 else 11,i := 0,code := 0 }
def goX (k : Nat) (kI : Int) (s : XM) : XM := bif ltB (kI) ((s.rs.length : Int)) then (bif eqB (s.bk) (1) && (s.made == i64.wrap (s.stamp + 1)) then deX s else { s with part := 8,i := k,code := 0 }) else deX s
def buX (v : Int) (s : XM) : XM := bif gtB (v) (1000) then abX 5 { s with bst := 9,bsp := v,ybst := 9,ybsp := v } else goX 0 0 { s with bst := 9,bsp := v,ybst := 9,ybsp := v,made := v }
def readX' (s : XM) : XM :=
 if s.part = 0 then bif (freshT (at0 s.W (2 + s.row)) s.stamp != 0) then abX (freshT (at0 s.W (2 + s.row)) s.stamp) { ldX (2 + s.row) s with seen := at0 s.W (2 + s.row) } else { ldX (2 + s.row) s with seen := at0 s.W (2 + s.row),part := 1,code := 0 }
 else if s.part = 1 then { ldX s.at_ s with val := at0 s.W s.at_,part := 2,code := 0 }
 else bif (at0 s.W (2 + s.row) != s.seen) then abX 2 (ldX (2 + s.row) s) else { ldX (2 + s.row) s with part := 3,value := s.val,rs := bif !hasB s.rs s.row then s.rs ++ [⟨s.row,0⟩] else s.rs,job := 0,code := 1 }
def lockX (s : XM) : XM :=
 if s.part = 5 then bif !ltB (at0 s.W (2 + at0 s.rows (s.i : Int)) % 16 - 1) (0) then abX 1 { ldX (2 + at0 s.rows (s.i : Int)) s with seen := at0 s.W (2 + at0 s.rows (s.i : Int)) } else { ldX (2 + at0 s.rows (s.i : Int)) s with seen := at0 s.W (2 + at0 s.rows (s.i : Int)),part := 6,code := 0 }
 else bif (at0 s.W (2 + at0 s.rows (s.i : Int)) == s.seen) then
  (bif geB (((s.i + 1 : Nat) : Int)) ((s.rows.length : Int)) then { swX (2 + at0 s.rows (s.i : Int)) s.seen (s.seen - s.seen % 16 + s.th + 1) s with tk := s.tk ++ [⟨2 + at0 s.rows (s.i : Int),s.seen⟩],i := s.i + 1,part := 7,code := 0,ybk := s.c,ybst := 0,ybse := 0,ybsp := 0 }
   else { swX (2 + at0 s.rows (s.i : Int)) s.seen (s.seen - s.seen % 16 + s.th + 1) s with tk := s.tk ++ [⟨2 + at0 s.rows (s.i : Int),s.seen⟩],i := s.i + 1,part := 5,code := 0 })
  else abX 1 (swX (2 + at0 s.rows (s.i : Int)) s.seen (s.seen - s.seen % 16 + s.th + 1) s)
def bumpX (s : XM) : XM :=
 if s.bk = 1 then buX (i64.wrap (at0 s.W 0 + 1)) (adX (i64.wrap (at0 s.W 0 + 1)) s)
 else if s.bst = 0 then { ldX 0 s with bst := 1,bse := at0 s.W 0,ybst := 1,ybse := at0 s.W 0,code := 0 }
 else buX (bif (at0 s.W 0 == s.bse) then i64.wrap (s.bse + 1) else at0 s.W 0) (swX 0 s.bse (i64.wrap (s.bse + 1)) s)
def chX (v : Int) (s : XM) : XM :=
 bif geB (v % 16 - 1) (0) && (v % 16 - 1 != s.th) then abX 1 s else bif gtB (v / 16) (s.stamp) then abX 2 s else goX (s.i + 1) ((s.i + 1 : Nat) : Int) s
def endX (s : XM) : XM :=
 if s.part = 9 then bif ltB (((s.i + 1 : Nat) : Int)) ((s.ws.length : Int)) then { stX (at3 s.ws (s.i : Int)).pl (at3 s.ws (s.i : Int)).vl s with i := s.i + 1,code := 0 } else { stX (at3 s.ws (s.i : Int)).pl (at3 s.ws (s.i : Int)).vl s with part := 10,i := 0,code := 0 }
 else if s.part = 10 then { stX (2 + at0 s.rows (s.i : Int)) (s.made * 16) s with i := s.i + 1,part := bif geB (((s.i + 1 : Nat) : Int)) ((s.rows.length : Int)) then 11 else 10,code := 0 }
 else { stX (11 + 2 * s.th) 0 s with ph := false,stamp := bif gtB ((s.ws.length : Int)) (0) then s.made else s.stamp,job := 0,code := 1 }
def markX (s : XM) : XM := bif gtB ((s.ws.length : Int)) (0) then { stX (11 + 2 * s.th) 2 s with ph := true,rows := rowsT (s.ws.map (·.pl)),part := 5,bk := s.c,bst := 0,bse := 0,bsp := 0,code := 0 } else { stX (11 + 2 * s.th) 2 s with ph := true,life := 2,part := 11,i := 0,code := 0 }
def stepX (s : XM) : XM :=
 if s.job = 1 then { ldX 0 s with stamp := at0 s.W 0,job := 0,code := 1 }
 else if s.job = 2 then readX' s
 else if s.job = 4 then
  (if s.part = 4 then markX s else if s.part = 5 then lockX s else if s.part = 6 then lockX s else if s.part = 7 then bumpX s
   else if s.part = 8 then chX (at0 s.W (2 + (at3 s.rs (s.i : Int)).pl)) (ldX (2 + (at3 s.rs (s.i : Int)).pl) s) else endX s)
 else bif ltB ((s.i : Int)) ((s.tk.length : Int)) then { stX (at3 s.tk (s.i : Int)).pl (at3 s.tk (s.i : Int)).vl s with i := s.i + 1,code := 0 } else { stX (11 + 2 * s.th) 0 s with ph := false,job := 0,code := 2 }
def zb (s : XM) : XM := { s with ybk := 0,ybst := 0,ybse := 0,ybsp := 0 }
def rowsAt : V → Nat
 | .R 5 => 0
 | _ => 1
def selX (_ : V) (h : SH cod) : Nat := match hget h 0 with
 | some (.cells tx) => rowsAt (tx.getD 28 .any)
 | _ => 2
def xStepD (st : XM → XM) (I : XM → Prop) (root : Nat) : FrD cod where
 n := 60
 foot := xFoot
 St := XM
 I := I
 args := fun s => [.ptr 0 0,.ptr 7 0]
 heap := xIn
 outs := [⟨XM,fun s s' => s' = st s ∧ ¬ fresh0 s,fun s => iv s.code,xOut 60 5⟩]
 sel := selX
noncomputable def lX : List (FuncId × Ctr cod) := [(18,mkCtr stripeD),(21,mkCtr threadD),(22,mkCtr seqD),(28,mkCtr clockD),(43,mkCtr sizeD),(50,mkCtr badD),(51,mkCtr mayD),(56,mkCtr hashD),(57,mkCtr roomD),(70,mkCtr freshD),(73,mkCtr atD),(76,mkCtr rowsD),(77,mkCtr placesD),(85,mkCtr bitD),(86,mkCtr findD),(87,mkCtr hasD),(90,mkCtr holderD),(91,mkCtr versionD),(94,mkCtr takenD),(98,mkCtr freeD)]
noncomputable def b18 : Code := Try.f15.body.getD .skip
noncomputable def stepC : Ctr cod := loopCtr F (lookC lX) 2000 Try.f15 b18 (fun _ _ => []) (fun _ _ => 0)
noncomputable def vcX (D : FrD cod) (s : D.St) (h : SH cod) : Tree := stepC 0 (D.args s) (D.heap s h) (frFin D s h)
end Go.Proofs.Ytmjjljngaefpaaa
/- Tl2Two: what is owed at each end of a step, by what it makes. Printed by a program (gen_xl.py). -/
namespace Go.Proofs.Ytmjjljngaefpaaa
open Go.RowKit Go.Am Go.Sy
open Go.IntKind (i64 u64)
set_option linter.unusedVariables false
def hpF (o : Nat → Option Ob) (i : Nat) : Nat → List (Option Ob)
 | 0 => []
 | n + 1 => o i :: hpF o (i + 1) n
def dsF (o : Nat → Option Ob) (i : Nat) : Nat → List (Option Ob)
 | 0 => []
 | n + 1 => o i :: dsF o (i - 1) n
theorem hpE : ∀ {n : Nat} {l : List (Option Ob)} {i : Nat},l.length = n → ∃ o,l = hpF o i n
 | 0,l,i,h => ⟨fun _ => none,List.eq_nil_of_length_eq_zero h⟩
 | n + 1,[],i,h => by cases h
 | n + 1,x :: l,i,h => by
  obtain ⟨o,e⟩ := hpE (n := n) (l := l) (i := i + 1) (by simpa using h)
  have key : ∀ (m j : Nat),i < j → hpF (fun k => if k = i then x else o k) j m = hpF o j m := by
   intro m
   induction m with
   | zero => intro j _; rfl
   | succ m ih => intro j hj; show (if j = i then x else o j) :: _ = _; rw [ih (j + 1) (by omega),if_neg (by omega)]; rfl
  exact ⟨fun k => if k = i then x else o k,by show _ = (if i = i then x else o i) :: _; rw [key n (i + 1) (by omega),← e,if_pos rfl]⟩
def oE : List (Option Ob) → Prop → Prop
 | [],p => p
 | o :: l,p => o = o ∧ oE l p
theorem oE_mk {p : Prop} (h : p) : ∀ l : List (Option Ob),oE l p
 | [] => h
 | o :: l => ⟨rfl,oE_mk h l⟩
def Lf (q : XM → Prop) (os : List (Option Ob)) (code : Int) (th : Int) (c : Int) (life : Int) (job : Int) (part : Int) (i : Int) (at_ : Int) (row : Int) (seen : Int) (val : Int) (value : Int) (cause : Int) (stamp : Int) (made : Int) (bk : Int) (bst : Int) (bse : Int) (bsp : Int) (ph : Bool) (rs : List Wo) (ws : List Wo) (asked : Int) (rows : List Int) (tk : List Wo) (W : List Int) (steps : Int) (lk : Int) (la : Int) (lv : Int) (ls : Int) (ld : Bool) : Prop := ∃ s : XM,ws = s.ws ∧ W = s.W ∧ code = s.code ∧ steps = s.steps ∧ lk = s.lk ∧ la = s.la ∧ lv = s.lv ∧ ls = s.ls ∧ ld = s.ld ∧ AVal.int i64 32 = AVal.int i64 32 ∧ filtT ws = filtT s.ws ∧ asked = s.asked ∧ AVal.int i64 32 = AVal.int i64 32 ∧ rs = s.rs ∧ AVal.int i64 3 = AVal.int i64 3 ∧ AVal.int i64 1 = AVal.int i64 1 ∧ AVal.int i64 3 = AVal.int i64 3 ∧ AVal.int i64 0 = AVal.int i64 0 ∧ AVal.int i64 4 = AVal.int i64 4 ∧ th = s.th ∧ c = s.c ∧ AVal.int i64 1000 = AVal.int i64 1000 ∧ AVal.nils = AVal.nils ∧ AVal.int i64 life = AVal.int i64 s.life ∧ AVal.int i64 job = AVal.int i64 s.job ∧ AVal.int i64 part = AVal.int i64 s.part ∧ i = (s.i : Int) ∧ at_ = s.at_ ∧ row = s.row ∧ seen = s.seen ∧ val = s.val ∧ value = s.value ∧ cause = s.cause ∧ stamp = s.stamp ∧ made = s.made ∧ AVal.int i64 bk = AVal.int i64 s.bk ∧ AVal.int i64 bst = AVal.int i64 s.bst ∧ bse = s.bse ∧ bsp = s.bsp ∧ rows = s.rows ∧ tk = s.tk ∧ AVal.bool ph = AVal.bool s.ph ∧ oE os (q s ∧ True)
theorem lf0 {q : XM → Prop} {os : List (Option Ob)} {i : Int} {code : Int} {th : Int} {c : Int} {life : Int} {job : Int} {part : Int} {k : Nat} {at_ : Int} {row : Int} {seen : Int} {val : Int} {value : Int} {cause : Int} {stamp : Int} {made : Int} {bk : Int} {bst : Int} {bse : Int} {bsp : Int} {ph : Bool} {rs : List Wo} {ws : List Wo} {asked : Int} {rows : List Int} {tk : List Wo} {W : List Int} {steps : Int} {lk : Int} {la : Int} {lv : Int} {ls : Int} {ld : Bool} {s : XM} (h : zb s = ⟨code,th,c,life,job,part,k,at_,row,seen,val,value,cause,stamp,made,bk,bst,bse,bsp,ph,rs,ws,asked,rows,tk,W,steps,lk,la,lv,ls,ld,0,0,0,0⟩) (hi : i = (k : Int)) (hq : q s) : Lf q os code th c life job part i at_ row seen val value cause stamp made bk bst bse bsp ph rs ws asked rows tk W steps lk la lv ls ld := by
 have e_code : s.code = code := congrArg XM.code h
 have e_th : s.th = th := congrArg XM.th h
 have e_c : s.c = c := congrArg XM.c h
 have e_life : s.life = life := congrArg XM.life h
 have e_job : s.job = job := congrArg XM.job h
 have e_part : s.part = part := congrArg XM.part h
 have e_i : s.i = k := congrArg XM.i h
 have e_at_ : s.at_ = at_ := congrArg XM.at_ h
 have e_row : s.row = row := congrArg XM.row h
 have e_seen : s.seen = seen := congrArg XM.seen h
 have e_val : s.val = val := congrArg XM.val h
 have e_value : s.value = value := congrArg XM.value h
 have e_cause : s.cause = cause := congrArg XM.cause h
 have e_stamp : s.stamp = stamp := congrArg XM.stamp h
 have e_made : s.made = made := congrArg XM.made h
 have e_bk : s.bk = bk := congrArg XM.bk h
 have e_bst : s.bst = bst := congrArg XM.bst h
 have e_bse : s.bse = bse := congrArg XM.bse h
 have e_bsp : s.bsp = bsp := congrArg XM.bsp h
 have e_ph : s.ph = ph := congrArg XM.ph h
 have e_rs : s.rs = rs := congrArg XM.rs h
 have e_ws : s.ws = ws := congrArg XM.ws h
 have e_asked : s.asked = asked := congrArg XM.asked h
 have e_rows : s.rows = rows := congrArg XM.rows h
 have e_tk : s.tk = tk := congrArg XM.tk h
 have e_W : s.W = W := congrArg XM.W h
 have e_steps : s.steps = steps := congrArg XM.steps h
 have e_lk : s.lk = lk := congrArg XM.lk h
 have e_la : s.la = la := congrArg XM.la h
 have e_lv : s.lv = lv := congrArg XM.lv h
 have e_ls : s.ls = ls := congrArg XM.ls h
 have e_ld : s.ld = ld := congrArg XM.ld h
 exact ⟨s,e_ws.symm,e_W.symm,e_code.symm,e_steps.symm,e_lk.symm,e_la.symm,e_lv.symm,e_ls.symm,e_ld.symm,rfl,(by rw [e_ws]),e_asked.symm,rfl,e_rs.symm,rfl,rfl,rfl,rfl,rfl,e_th.symm,e_c.symm,rfl,rfl,(by rw [e_life]),(by rw [e_job]),(by rw [e_part]),(by rw [e_i]; exact hi),e_at_.symm,e_row.symm,e_seen.symm,e_val.symm,e_value.symm,e_cause.symm,e_stamp.symm,e_made.symm,(by rw [e_bk]),(by rw [e_bst]),e_bse.symm,e_bsp.symm,e_rows.symm,e_tk.symm,(by rw [e_ph]),oE_mk ⟨hq,trivial⟩ os⟩
abbrev mp1 : Mp := Mp.mk 3 1 3 0 4
def qN (st : XM → XM) (s0 s : XM) : Prop := s = st s0 ∧ ¬fresh0 s0
theorem bad34 {W : List Int} {a : Int} (hW : W.length = 34) (h0 : 0 ≤ a) (h1 : a < 34) : badD.pre (Mw.mk W,a,()) := ⟨h0,by show a < (W.length : Int); rw [hW]; exact h1⟩
theorem data_lt {a : Int} (h : isData a) : 0 ≤ a ∧ a < 34 := by
 rcases h with rfl | rfl | rfl | rfl <;> decide
theorem wN {n : Nat} (h : n < 100000000) : i64.wrap ((n : Int) + 1) = ((n + 1 : Nat) : Int) := by rw [wrap64 (by omega) (by omega)]; rfl
theorem nf1 {st : XM → XM} {s : XM} (k : Int) (e : s.job = k) (h : ¬k = 4 := by decide) : qN st s (st s) := ⟨rfl,fun f => h (e.symm.trans f.1)⟩
theorem nf2 {st : XM → XM} {s : XM} (k : Int) (e : s.part = k) (h : ¬k = 4 := by decide) : qN st s (st s) := ⟨rfl,fun f => h (e.symm.trans f.2.1)⟩
theorem deadL {P : Prop} (h : False := by omega) : P := h.elim
theorem deadS {P : Prop} (h : False := by simp_all; done) : P := h.elim
theorem lfB {q : XM → Prop} {os : List (Option Ob)} {i : Int} {code : Int} {th : Int} {c : Int} {life : Int} {job : Int} {part : Int} {k : Nat} {at_ : Int} {row : Int} {seen : Int} {val : Int} {value : Int} {cause : Int} {stamp : Int} {made : Int} {bk : Int} {bst : Int} {bse : Int} {bsp : Int} {ph : Bool} {rs : List Wo} {ws : List Wo} {asked : Int} {rows : List Int} {tk : List Wo} {W : List Int} {steps : Int} {lk : Int} {la : Int} {lv : Int} {ls : Int} {ld : Bool} {s : XM} (hi : i = (k : Int)) (hq : q s) (h : zb s = ⟨code,th,c,life,job,part,k,at_,row,seen,val,value,cause,stamp,made,bk,bst,bse,bsp,ph,rs,ws,asked,rows,tk,W,steps,lk,la,lv,ls,ld,0,0,0,0⟩ := by simp only [stepX,zb,readX',lockX,markX,bumpX,chX,endX,abX,deX,goX,buX,ldX,stX,swX,adX,tick, *,cond_true,cond_false,Bool.not_true,Bool.not_false,Bool.and_true,Bool.true_and,Bool.and_false,Bool.false_and,decide_true,decide_false,bne_self_eq_false,eqB,beq_self_eq_true,if_true,if_false,Int.reduceEq,reduceIte]; try rfl) : Lf q os code th c life job part i at_ row seen val value cause stamp made bk bst bse bsp ph rs ws asked rows tk W steps lk la lv ls ld := lf0 h hi hq
end Go.Proofs.Ytmjjljngaefpaaa

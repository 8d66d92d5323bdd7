/- Tl2Two: what is owed at each end of a step, by what it makes. Printed by a program (gen_xl.py). -/
import Derived.Test.YtmjjljngaefpaaaGreatXs
namespace Go.Proofs.YtmjjljngaefpaaaGreat
open Go.RowKit Go.Am Go.Sy
open Go.IntKind (i64 u64)
set_option linter.unusedVariables false
def hpF (o : Nat → Option Ob) (i : Nat) : Nat → List (Option Ob)
 | 0 => []
 | n + 1 => o i :: hpF o (i + 1) n
def dsF (o : Nat → Option Ob) (i : Nat) : Nat → List (Option Ob)
 | 0 => []
 | n + 1 => o i :: dsF o (i - 1) n
theorem hpE : ∀ {n : Nat} {l : List (Option Ob)} {i : Nat},l.length = n → ∃ o,l = hpF o i n
 | 0,l,i,h => ⟨fun _ => none,qu h⟩
 | n + 1,[],i,h => by cases h
 | n + 1,x :: l,i,h => by
  obtain ⟨o,e⟩ := hpE (n := n) (l := l) (i := i + 1) (by simpa using h)
  have key : ∀ (m j : Nat),i < j → hpF (fun k => if k = i then x else o k) j m = hpF o j m := by
   intro m
   induction m with
   | zero => intro j _; rfl
   | succ m ih => intro j hj; show (if j = i then x else o j) :: _ = _; rw [ih (j + 1) (by omega),if_neg (by omega)]; rfl
  exact ⟨fun k => if k = i then x else o k,by show _ = (if i = i then x else o i) :: _; rw [key n (i + 1) (by omega),← e,if_pos rfl]⟩
def oE : List (Option Ob) → Prop → Prop
 | [],p => p
 | o :: l,p => o = o ∧ oE l p
theorem oE_mk {p : Prop} (h : p) : ∀ l : List (Option Ob),oE l p
 | [] => h
 | o :: l => ⟨rfl,oE_mk h l⟩
def Lf (q : XM → Prop) (os : List (Option Ob)) (code : Int) (th : Int) (c : Int) (life : Int) (job : Int) (part : Int) (i : Int) (at_ : Int) (row : Int) (seen : Int) (val : Int) (value : Int) (cause : Int) (stamp : Int) (made : Int) (bk : Int) (bst : Int) (bse : Int) (bsp : Int) (ph : Bool) (rs : List Wo) (ws : List Wo) (asked : Int) (rows : List Int) (tk : List Wo) (W : List Int) (steps : Int) (lk : Int) (la : Int) (lv : Int) (ls : Int) (ld : Bool) : Prop := ∃ s : XM,ws = s.ws ∧ W = s.W ∧ code = s.code ∧ steps = s.steps ∧ lk = s.lk ∧ la = s.la ∧ lv = s.lv ∧ ls = s.ls ∧ ld = s.ld ∧ AVal.int i64 32 = AVal.int i64 32 ∧ filtT ws = filtT s.ws ∧ asked = s.asked ∧ AVal.int i64 32 = AVal.int i64 32 ∧ rs = s.rs ∧ AVal.int i64 3 = AVal.int i64 3 ∧ AVal.int i64 1 = AVal.int i64 1 ∧ AVal.int i64 3 = AVal.int i64 3 ∧ AVal.int i64 0 = AVal.int i64 0 ∧ AVal.int i64 4 = AVal.int i64 4 ∧ th = s.th ∧ c = s.c ∧ AVal.int i64 1000 = AVal.int i64 1000 ∧ AVal.nils = AVal.nils ∧ AVal.int i64 life = AVal.int i64 s.life ∧ AVal.int i64 job = AVal.int i64 s.job ∧ AVal.int i64 part = AVal.int i64 s.part ∧ i = (s.i : Int) ∧ at_ = s.at_ ∧ row = s.row ∧ seen = s.seen ∧ val = s.val ∧ value = s.value ∧ cause = s.cause ∧ stamp = s.stamp ∧ made = s.made ∧ AVal.int i64 bk = AVal.int i64 s.bk ∧ AVal.int i64 bst = AVal.int i64 s.bst ∧ bse = s.bse ∧ bsp = s.bsp ∧ rows = s.rows ∧ tk = s.tk ∧ AVal.bool ph = AVal.bool s.ph ∧ oE os (q s ∧ True)
theorem lf0 {q : XM → Prop} {os : List (Option Ob)} {i : Int} {code : Int} {th : Int} {c : Int} {life : Int} {job : Int} {part : Int} {k : Nat} {at_ : Int} {row : Int} {seen : Int} {val : Int} {value : Int} {cause : Int} {stamp : Int} {made : Int} {bk : Int} {bst : Int} {bse : Int} {bsp : Int} {ph : Bool} {rs : List Wo} {ws : List Wo} {asked : Int} {rows : List Int} {tk : List Wo} {W : List Int} {steps : Int} {lk : Int} {la : Int} {lv : Int} {ls : Int} {ld : Bool} {s : XM} (h : zb s = ⟨code,th,c,life,job,part,k,at_,row,seen,val,value,cause,stamp,made,bk,bst,bse,bsp,ph,rs,ws,asked,rows,tk,W,steps,lk,la,lv,ls,ld,0,0,0,0⟩) (hi : i = (k : Int)) (hq : q s) : Lf q os code th c life job part i at_ row seen val value cause stamp made bk bst bse bsp ph rs ws asked rows tk W steps lk la lv ls ld := by
 have e_code : s.code = code := congrArg XM.code h
 have e_th : s.th = th := congrArg XM.th h
 have e_c : s.c = c := congrArg XM.c h
 have e_life : s.life = life := congrArg XM.life h
 have e_job : s.job = job := congrArg XM.job h
 have e_part : s.part = part := congrArg XM.part h
 have e_i : s.i = k := congrArg XM.i h
 have e_at_ : s.at_ = at_ := congrArg XM.at_ h
 have e_row : s.row = row := congrArg XM.row h
 have e_seen : s.seen = seen := congrArg XM.seen h
 have e_val : s.val = val := congrArg XM.val h
 have e_value : s.value = value := congrArg XM.value h
 have e_cause : s.cause = cause := congrArg XM.cause h
 have e_stamp : s.stamp = stamp := congrArg XM.stamp h
 have e_made : s.made = made := congrArg XM.made h
 have e_bk : s.bk = bk := congrArg XM.bk h
 have e_bst : s.bst = bst := congrArg XM.bst h
 have e_bse : s.bse = bse := congrArg XM.bse h
 have e_bsp : s.bsp = bsp := congrArg XM.bsp h
 have e_ph : s.ph = ph := congrArg XM.ph h
 have e_rs : s.rs = rs := congrArg XM.rs h
 have e_ws : s.ws = ws := congrArg XM.ws h
 have e_asked : s.asked = asked := congrArg XM.asked h
 have e_rows : s.rows = rows := congrArg XM.rows h
 have e_tk : s.tk = tk := congrArg XM.tk h
 have e_W : s.W = W := congrArg XM.W h
 have e_steps : s.steps = steps := congrArg XM.steps h
 have e_lk : s.lk = lk := congrArg XM.lk h
 have e_la : s.la = la := congrArg XM.la h
 have e_lv : s.lv = lv := congrArg XM.lv h
 have e_ls : s.ls = ls := congrArg XM.ls h
 have e_ld : s.ld = ld := congrArg XM.ld h
 exact ⟨s,e_ws.symm,e_W.symm,e_code.symm,e_steps.symm,e_lk.symm,e_la.symm,e_lv.symm,e_ls.symm,e_ld.symm,rfl,(by rw [e_ws]),e_asked.symm,rfl,e_rs.symm,rfl,rfl,rfl,rfl,rfl,e_th.symm,e_c.symm,rfl,rfl,(by rw [e_life]),(by rw [e_job]),(by rw [e_part]),(by rw [e_i]; exact hi),e_at_.symm,e_row.symm,e_seen.symm,e_val.symm,e_value.symm,e_cause.symm,e_stamp.symm,e_made.symm,(by rw [e_bk]),(by rw [e_bst]),e_bse.symm,e_bsp.symm,e_rows.symm,e_tk.symm,(by rw [e_ph]),oE_mk ⟨hq,trivial⟩ os⟩
abbrev mp1 : Mp := Mp.mk 3 1 3 0 4
def qN (st : XM → XM) (s0 s : XM) : Prop := s = st s0 ∧ ¬fresh0 s0
def qF (st : XM → XM) (s0 s : XM) : Prop := s = st s0 ∧ fresh0 s0
theorem bad34 {W : List Int} {a : Int} (hW : W.length = 34) (h0 : 0 ≤ a) (h1 : a < 34) : badD.pre (Mw.mk W,a,()) := ⟨h0,by show a < (W.length : Int); rw [hW]; exact h1⟩
theorem data_lt {a : Int} (h : isData a) : 0 ≤ a ∧ a < 34 := by
 rcases h with rfl | rfl | rfl | rfl <;> decide
theorem wN {n : Nat} (h : n < 100000000) : i64.wrap ((n : Int) + 1) = ((n + 1 : Nat) : Int) := by rw [wrap64 (by omega) (by omega)]; rfl
theorem nf1 {st : XM → XM} {s : XM} (k : Int) (e : s.job = k) (h : ¬k = 4 := by decide) : qN st s (st s) := ⟨rfl,fun f => h (e.symm.trans f.1)⟩
theorem nf2 {st : XM → XM} {s : XM} (k : Int) (e : s.part = k) (h : ¬k = 4 := by decide) : qN st s (st s) := ⟨rfl,fun f => h (e.symm.trans f.2.1)⟩
theorem deadL {P : Prop} (h : False := by omega) : P := h.elim
theorem deadS {P : Prop} (h : False := by simp_all; done) : P := h.elim
theorem lfB {q : XM → Prop} {os : List (Option Ob)} {i : Int} {code : Int} {th : Int} {c : Int} {life : Int} {job : Int} {part : Int} {k : Nat} {at_ : Int} {row : Int} {seen : Int} {val : Int} {value : Int} {cause : Int} {stamp : Int} {made : Int} {bk : Int} {bst : Int} {bse : Int} {bsp : Int} {ph : Bool} {rs : List Wo} {ws : List Wo} {asked : Int} {rows : List Int} {tk : List Wo} {W : List Int} {steps : Int} {lk : Int} {la : Int} {lv : Int} {ls : Int} {ld : Bool} {s : XM} (hi : i = (k : Int)) (hq : q s) (h : zb s = ⟨code,th,c,life,job,part,k,at_,row,seen,val,value,cause,stamp,made,bk,bst,bse,bsp,ph,rs,ws,asked,rows,tk,W,steps,lk,la,lv,ls,ld,0,0,0,0⟩ := by simp only [stepX,zb,readX',lockX,markX,bumpX,chX,endX,abX,deX,goX,buX,ldX,stX,swX,adX,tick, *,cond_true,cond_false,Bool.not_true,Bool.not_false,Bool.and_true,Bool.true_and,Bool.and_false,Bool.false_and,decide_true,decide_false,qx,eqB,beq_self_eq_true,if_true,if_false,Int.reduceEq,reduceIte]; try rfl) : Lf q os code th c life job part i at_ row seen val value cause stamp made bk bst bse bsp ph rs ws asked rows tk W steps lk la lv ls ld := lf0 h hi hq
end Go.Proofs.YtmjjljngaefpaaaGreat

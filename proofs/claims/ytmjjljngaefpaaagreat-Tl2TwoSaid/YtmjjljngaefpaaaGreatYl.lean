/- Tl2Two: what is owed at each end of the reference's step, by what it makes. Printed by a program (gen_yl.py). -/
import Derived.Test.YtmjjljngaefpaaaGreatYs
namespace Go.Proofs.YtmjjljngaefpaaaGreat
open Go.RowKit Go.Am Go.Sy
open Go.IntKind (i64 u64)
set_option linter.unusedVariables false
def LfY (q : YM → Prop) (os : List (Option Ob)) (code : Int) (th : Int) (c : Int) (al : Bool) (su : Bool) (ph : Bool) (job : Int) (st : Int) (i : Int) (at_ : Int) (seen : Int) (val : Int) (value : Int) (cause : Int) (stamp : Int) (made : Int) (ybk : Int) (ybst : Int) (ybse : Int) (ybsp : Int) (rs : List Wo) (ws : List Wo) (asked : Int) (rows : List Int) (old : List Int) (W : List Int) (steps : Int) (lk : Int) (la : Int) (lv : Int) (ls : Int) (ld : Bool) : Prop := ∃ s : YM,ws = s.ws ∧ W = s.W ∧ code = s.code ∧ steps = s.steps ∧ lk = s.lk ∧ la = s.la ∧ lv = s.lv ∧ ls = s.ls ∧ ld = s.ld ∧ AVal.int i64 3 = AVal.int i64 3 ∧ AVal.int i64 1 = AVal.int i64 1 ∧ AVal.int i64 3 = AVal.int i64 3 ∧ AVal.int i64 0 = AVal.int i64 0 ∧ AVal.int i64 4 = AVal.int i64 4 ∧ AVal.bool false = AVal.bool false ∧ th = s.th ∧ c = s.c ∧ AVal.int i64 1000 = AVal.int i64 1000 ∧ AVal.int i64 32 = AVal.int i64 32 ∧ rs = s.rs ∧ AVal.int i64 32 = AVal.int i64 32 ∧ asked = s.asked ∧ AVal.nils = AVal.nils ∧ AVal.bool al = AVal.bool s.al ∧ AVal.bool su = AVal.bool s.su ∧ AVal.bool ph = AVal.bool s.ph ∧ AVal.bool false = AVal.bool false ∧ AVal.int i64 job = AVal.int i64 s.job ∧ AVal.int i64 st = AVal.int i64 s.st ∧ i = (s.i : Int) ∧ AVal.int i64 0 = AVal.int i64 0 ∧ AVal.int i64 0 = AVal.int i64 0 ∧ at_ = s.at_ ∧ val = s.val ∧ seen = s.seen ∧ AVal.int i64 0 = AVal.int i64 0 ∧ value = s.value ∧ stamp = s.stamp ∧ made = s.made ∧ cause = s.cause ∧ rows = s.rows ∧ old = s.old ∧ AVal.int i64 ybk = AVal.int i64 s.ybk ∧ AVal.int i64 ybst = AVal.int i64 s.ybst ∧ ybse = s.ybse ∧ ybsp = s.ybsp ∧ oE os (q s ∧ True)
theorem lfy0 {q : YM → Prop} {os : List (Option Ob)} {i : Int} {code : Int} {th : Int} {c : Int} {al : Bool} {su : Bool} {ph : Bool} {job : Int} {st : Int} {k : Nat} {at_ : Int} {seen : Int} {val : Int} {value : Int} {cause : Int} {stamp : Int} {made : Int} {ybk : Int} {ybst : Int} {ybse : Int} {ybsp : Int} {rs : List Wo} {ws : List Wo} {asked : Int} {rows : List Int} {old : List Int} {W : List Int} {steps : Int} {lk : Int} {la : Int} {lv : Int} {ls : Int} {ld : Bool} {s : YM} (h : s = ⟨code,th,c,al,su,ph,job,st,k,at_,seen,val,value,cause,stamp,made,ybk,ybst,ybse,ybsp,rs,ws,asked,rows,old,W,steps,lk,la,lv,ls,ld⟩) (hi : i = (k : Int)) (hq : q s) : LfY q os code th c al su ph job st i at_ seen val value cause stamp made ybk ybst ybse ybsp rs ws asked rows old W steps lk la lv ls ld := by
 subst h
 exact ⟨_,rfl,rfl,rfl,rfl,rfl,rfl,rfl,rfl,rfl,rfl,rfl,rfl,rfl,rfl,rfl,rfl,rfl,rfl,rfl,rfl,rfl,rfl,rfl,rfl,rfl,rfl,rfl,rfl,rfl,hi,rfl,rfl,rfl,rfl,rfl,rfl,rfl,rfl,rfl,rfl,rfl,rfl,rfl,rfl,rfl,rfl,oE_mk ⟨hq,trivial⟩ os⟩
def qNy (st : XM → XM) (s0 : XM) (y : YM) : Prop := y = yv (st s0) ∧ ¬fresh0 s0
def qFy (st : XM → XM) (s0 : XM) (y : YM) : Prop := y = yv (st s0) ∧ fresh0 s0
def Bd : Nat → Int → Int → Prop → Prop
 | 0,_,_,p => p
 | n + 1,x,l,p => (0 ≤ x ∧ x < l) ∧ Bd n x l p
theorem bd {x l : Int} {p : Prop} (h0 : 0 ≤ x) (h1 : x < l) (h : p) : ∀ n : Nat,Bd n x l p
 | 0 => h
 | n + 1 => ⟨⟨h0,h1⟩,bd h0 h1 h n⟩
theorem ltB_t {a b : Int} (h : a < b) : ltB a b = true := decide_eq_true h
theorem ltB_f {a b : Int} (h : ¬ a < b) : ltB a b = false := decide_eq_false h
theorem gtB_t {a b : Int} (h : a > b) : gtB a b = true := decide_eq_true h
theorem gtB_f {a b : Int} (h : ¬ a > b) : gtB a b = false := decide_eq_false h
theorem geB_t {a b : Int} (h : a ≥ b) : geB a b = true := decide_eq_true h
theorem geB_f {a b : Int} (h : ¬ a ≥ b) : geB a b = false := decide_eq_false h
theorem findGo_ge : ∀ (l : List Wo) (k i : Int),0 ≤ i → hasB l k = true → 0 ≤ findGo k l i
 | [],k,i,_,h => by cases h
 | w :: l,k,i,hi,h => by
  unfold findGo
  split
  ·exact hi
  ·rename_i hne
   unfold hasB at h
   rw [List.any_cons,Bool.or_eq_true] at h
   rcases h with h | h
   ·exact absurd (eq_of_beq h) hne
   ·exact findGo_ge l k (i + 1) (by omega) h
theorem find_lt {l : List Wo} {k : Int} {v : Bool} (h : decide (findT l k < 0) = v) : hasB l k = !v := by
 cases hb : hasB l k with
 | true =>
  have := findGo_ge l k 0 (Int.le_refl _) hb
  have h2 : ¬ findT l k < 0 := by unfold findT; omega
  rw [decide_eq_false h2] at h
  subst h
  rfl
 | false =>
  have h2 : findT l k < 0 := by unfold findT; rw [find_none l k 0 hb]; decide
  rw [decide_eq_true h2] at h
  subst h
  rfl
theorem in34 {W : List Int} {a : Int} (hW : W.length = 34) (h0 : 0 ≤ a) (h1 : a < 34) : inD.pre (Mw.mk W,a,()) := ⟨h0,by show a < (W.length : Int); rw [hW]; exact h1⟩
theorem hash_ge {a : Int} (h : isData a) : 0 ≤ hashT a ∧ hashT a < 3 := by
 rcases h with rfl | rfl | rfl | rfl <;> decide
theorem mapP1 : ∀ {l : List Wo},l.length = 1 → l.map (·.pl) = [(at3 l 0).pl]
 | [a],_ => rfl
theorem mapP2 : ∀ {l : List Wo},l.length = 2 → l.map (·.pl) = [(at3 l 0).pl,(at3 l 1).pl]
 | [a,b],_ => rfl
theorem mapP3 : ∀ {l : List Wo},l.length = 3 → l.map (·.pl) = [(at3 l 0).pl,(at3 l 1).pl,(at3 l 2).pl]
 | [a,b,c],_ => rfl
theorem mapP4 : ∀ {l : List Wo},l.length = 4 → l.map (·.pl) = [(at3 l 0).pl,(at3 l 1).pl,(at3 l 2).pl,(at3 l 3).pl]
 | [a,b,c,d],_ => rfl
theorem ne_nil {l : List Wo} (h : 0 < l.length) : l ≠ [] := fun e => by rw [e] at h; exact absurd h (by decide)
theorem rowsPre {ws : List Wo} {l : List Int} (e : ws.map (·.pl) = l) (hl : ws.length ≤ 4) (hd : ∀ w ∈ ws,isData w.pl) : rowsLD.pre (mp0,l,()) := by
 subst e
 refine ⟨rfl, ?_,fun a ha => ?_⟩
 ·show (ws.map (·.pl)).length ≤ 1000
  rw [qh]; omega
 ·have ha : a ∈ ws.map (·.pl) := ha
  obtain ⟨w,hw,rfl⟩ := List.mem_map.1 ha
  exact hd w hw
theorem at3_data {l : List Wo} (h : ∀ w ∈ l,isData w.pl) {n : Nat} (hn : n < l.length) : isData (at3 l (n : Int)).pl := by
 rw [at3_get hn]
 exact h _ (List.getElem_mem _)
theorem ny1 {st : XM → XM} {s : XM} (k : Int) (e : s.job = k) (h : ¬k = 4 := by decide) : qNy st s (yv (st s)) := ⟨rfl,fun f => h (e.symm.trans f.1)⟩
theorem ny2 {st : XM → XM} {s : XM} (k : Int) (e : s.part = k) (h : ¬k = 4 := by decide) : qNy st s (yv (st s)) := ⟨rfl,fun f => h (e.symm.trans f.2.1)⟩
theorem lfyB {q : YM → Prop} {os : List (Option Ob)} {i : Int} {code : Int} {th : Int} {c : Int} {al : Bool} {su : Bool} {ph : Bool} {job : Int} {st : Int} {k : Nat} {at_ : Int} {seen : Int} {val : Int} {value : Int} {cause : Int} {stamp : Int} {made : Int} {ybk : Int} {ybst : Int} {ybse : Int} {ybsp : Int} {rs : List Wo} {ws : List Wo} {asked : Int} {rows : List Int} {old : List Int} {W : List Int} {steps : Int} {lk : Int} {la : Int} {lv : Int} {ls : Int} {ld : Bool} {s : YM} (hi : i = (k : Int)) (hq : q s) (h : s = ⟨code,th,c,al,su,ph,job,st,k,at_,seen,val,value,cause,stamp,made,ybk,ybst,ybse,ybsp,rs,ws,asked,rows,old,W,steps,lk,la,lv,ls,ld⟩ := by simp only [yv,stepX,readX',lockX,markX,bumpX,chX,endX,abX,deX,goX,buX,ldX,stX,swX,adX,tick, *,cond_true,cond_false,Bool.cond_self,Bool.not_true,Bool.not_false,Bool.and_true,Bool.true_and,Bool.and_false,Bool.false_and,qx,eqB,beq_self_eq_true,if_true,if_false,Int.reduceEq,reduceIte]; try rfl) : LfY q os code th c al su ph job st i at_ seen val value cause stamp made ybk ybst ybse ybsp rs ws asked rows old W steps lk la lv ls ld := lfy0 h hi hq
end Go.Proofs.YtmjjljngaefpaaaGreat

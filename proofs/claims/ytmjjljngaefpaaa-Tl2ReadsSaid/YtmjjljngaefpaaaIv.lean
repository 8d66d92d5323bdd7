/- Tl2Two: what holds of an attempt and of the memory at each turn. -/
import Derived.Test.YtmjjljngaefpaaaNz
namespace Go.Proofs.Ytmjjljngaefpaaa
open Go.RowKit Go.Am Go.Sy
open Go.IntKind (i64 u64)
set_option linter.unusedVariables false
structure MI (n : Nat) (W : List Int) : Prop where
 len : W.length = 34
 clk : 0 ≤ at0 W 0 ∧ at0 W 0 ≤ (n : Int)
 str : ∀ r : Int,0 ≤ r → r < 3 → 0 ≤ at0 W (2 + r) ∧ at0 W (2 + r) < 1099511627776
structure RB (l : List Int) : Prop where
 len : l.length ≤ 3
 mem : ∀ r ∈ l,0 ≤ r ∧ r < 3
structure TkOk (tk : List Wo) (rows : List Int) : Prop where
 len : tk.length ≤ rows.length
 at_ : ∀ j : Nat,j < tk.length → (at3 tk (j : Int)).pl = 2 + at0 rows (j : Int) ∧ 0 ≤ (at3 tk (j : Int)).vl ∧ (at3 tk (j : Int)).vl < 1099511627776
structure SB (s : XM) : Prop where
 th : 0 ≤ s.th ∧ s.th < 3
 c : s.c = 1 ∨ s.c = 2
 wd : ∀ w ∈ s.ws,isData w.pl
 wn : (s.ws.map (·.pl)).Nodup
 rd : ∀ w ∈ s.rs,0 ≤ w.pl ∧ w.pl < 3
 rn : (s.rs.map (·.pl)).Nodup
def bOk (s : XM) (t q : Int) : Prop := s.bk = s.c ∧ s.bst = t ∧ s.bse = q ∧ s.ybk = s.bk ∧ s.ybst = s.bst ∧ s.ybse = s.bse ∧ s.ybsp = s.bsp
def maOk (s : XM) : Prop := 0 ≤ s.made ∧ s.made ≤ 1000
def clear (s : XM) : Prop := s.ph = false ∧ s.tk = [] ∧ s.rows = []
def marked (s : XM) : Prop := s.ph = true ∧ RB s.rows ∧ TkOk s.tk s.rows
inductive Kd (n : Nat) (s : XM) : Prop
 | no : s.job = 0 → (s.life = 0 ∨ s.life = 2 ∨ s.life = 3) → Kd n s
 | op : s.life = 1 → s.job = 0 → clear s → Kd n s
 | b : s.life = 1 → s.job = 1 → s.part = 0 → clear s → Kd n s
 | r0 : s.life = 1 → s.job = 2 → s.part = 0 → clear s → isData s.at_ → s.row = hashT s.at_ → Kd n s
 | r1 : s.life = 1 → s.job = 2 → s.part = 1 → clear s → isData s.at_ → s.row = hashT s.at_ → Kd n s
 | r2 : s.life = 1 → s.job = 2 → s.part = 2 → clear s → isData s.at_ → s.row = hashT s.at_ → Kd n s
 | m : s.life = 1 → s.job = 4 → s.part = 4 → clear s → s.i = 0 → Kd n s
 | l : s.life = 1 → s.job = 4 → s.part = 5 → marked s → s.ws ≠ [] → s.i < s.rows.length → s.tk.length = s.i → s.bk = s.c → s.bst = 0 → s.bse = 0 → s.bsp = 0 → Kd n s
 | t : s.life = 1 → s.job = 4 → s.part = 6 → marked s → s.ws ≠ [] → s.i < s.rows.length → s.tk.length = s.i → s.bk = s.c → s.bst = 0 → s.bse = 0 → s.bsp = 0 → (0 ≤ s.seen ∧ s.seen < 1099511627776) → Kd n s
 | o : s.life = 1 → s.job = 4 → s.part = 7 → marked s → s.ws ≠ [] → s.rows ≠ [] → bOk s 0 0 → Kd n s
 | k (q : Int) : s.life = 1 → s.job = 4 → s.part = 7 → marked s → s.ws ≠ [] → s.rows ≠ [] → s.c = 2 → bOk s 1 q → (0 ≤ q ∧ q ≤ (n : Int)) → Kd n s
 | ch (q : Int) : s.life = 1 → s.job = 4 → s.part = 8 → marked s → s.ws ≠ [] → s.rows ≠ [] → bOk s 9 q → s.i < s.rs.length → maOk s → (s.c = 1 → (s.made == i64.wrap (s.stamp + 1)) = false) → Kd n s
 | w : s.life = 2 → s.job = 4 → s.part = 9 → marked s → s.rows ≠ [] → s.i < s.ws.length → maOk s → Kd n s
 | f : s.life = 2 → s.job = 4 → s.part = 10 → marked s → s.i < s.rows.length → maOk s → Kd n s
 | e : s.life = 2 → s.job = 4 → s.part = 11 → s.ph = true → Kd n s
 | u : s.life = 3 → s.job = 5 → s.part = 0 → marked s → Kd n s
structure AI (n : Nat) (s : XM) : Prop where
 sb : SB s
 kd : Kd n s
theorem data_len : ∀ {l : List Int},l.Nodup → (∀ a ∈ l,isData a) → l.length ≤ (if 26 ∈ l then 1 else 0) + (if 28 ∈ l then 1 else 0) + (if 30 ∈ l then 1 else 0) + (if 32 ∈ l then 1 else 0)
 | [],_,_ => Nat.zero_le _
 | a :: l,hn,hd => by
  have hn2 := List.nodup_cons.1 hn
  have ih := data_len hn2.2 fun x hx => hd x (List.mem_cons_of_mem _ hx)
  have ha := hn2.1
  rcases hd a List.mem_cons_self with rfl | rfl | rfl | rfl
  all_goals
   rw [if_neg ha] at ih
   simp only [List.length_cons,List.mem_cons,true_or,if_true,show ¬ ((28 : Int) = 26) by decide,show ¬ ((30 : Int) = 26) by decide,show ¬ ((32 : Int) = 26) by decide,show ¬ ((26 : Int) = 28) by decide,show ¬ ((30 : Int) = 28) by decide,show ¬ ((32 : Int) = 28) by decide,show ¬ ((26 : Int) = 30) by decide,show ¬ ((28 : Int) = 30) by decide,show ¬ ((32 : Int) = 30) by decide,show ¬ ((26 : Int) = 32) by decide,show ¬ ((28 : Int) = 32) by decide,show ¬ ((30 : Int) = 32) by decide,false_or]
   omega
theorem ind_le (p : Prop) [Decidable p] : (if p then 1 else 0 : Nat) ≤ 1 := by split <;> omega
theorem SB.ws4 {s : XM} (h : SB s) : s.ws.length ≤ 4 := by
 have := data_len h.wn fun a ha => by
  obtain ⟨w,hw,rfl⟩ := List.mem_map.1 ha
  exact h.wd w hw
 rw [List.length_map] at this
 have := ind_le (26 ∈ s.ws.map (·.pl))
 have := ind_le (28 ∈ s.ws.map (·.pl))
 have := ind_le (30 ∈ s.ws.map (·.pl))
 have := ind_le (32 ∈ s.ws.map (·.pl))
 omega
theorem row_len : ∀ {l : List Int},l.Nodup → (∀ a ∈ l,0 ≤ a ∧ a < 3) → l.length ≤ (if 0 ∈ l then 1 else 0) + (if 1 ∈ l then 1 else 0) + (if 2 ∈ l then 1 else 0)
 | [],_,_ => Nat.zero_le _
 | a :: l,hn,hd => by
  have hn2 := List.nodup_cons.1 hn
  have ih := row_len hn2.2 fun x hx => hd x (List.mem_cons_of_mem _ hx)
  have ha := hn2.1
  have h3 := hd a List.mem_cons_self
  rcases three h3.1 h3.2 with rfl | rfl | rfl
  all_goals
   rw [if_neg ha] at ih
   simp only [List.length_cons,List.mem_cons,true_or,if_true,show ¬ ((1 : Int) = 0) by decide,show ¬ ((2 : Int) = 0) by decide,show ¬ ((0 : Int) = 1) by decide,show ¬ ((2 : Int) = 1) by decide,show ¬ ((0 : Int) = 2) by decide,show ¬ ((1 : Int) = 2) by decide,false_or]
   omega
theorem SB.rs3 {s : XM} (h : SB s) : s.rs.length ≤ 3 := by
 have := row_len h.rn fun a ha => by
  obtain ⟨w,hw,rfl⟩ := List.mem_map.1 ha
  exact h.rd w hw
 rw [List.length_map] at this
 have := ind_le (0 ∈ s.rs.map (·.pl))
 have := ind_le (1 ∈ s.rs.map (·.pl))
 have := ind_le (2 ∈ s.rs.map (·.pl))
 omega
theorem RB.at_ {l : List Int} (h : RB l) {i : Nat} (hi : i < l.length) : 0 ≤ at0 l (i : Int) ∧ at0 l (i : Int) < 3 := by
 rw [at0_get hi]
 exact h.mem _ (List.getElem_mem _)
theorem rowsT_rb (l : List Int) : RB (rowsT l) := by
 unfold rowsT
 refine ⟨?_, ?_⟩
 ·cases inR 0 l <;> cases inR 1 l <;> cases inR 2 l <;> simp
 ·intro r hr
  have : r = 0 ∨ r = 1 ∨ r = 2 := by
   revert hr
   cases inR 0 l <;> cases inR 1 l <;> cases inR 2 l <;> simp <;> omega
  omega
theorem rowsT_pos {l : List Int} (h : 0 < l.length) (hd : ∀ a ∈ l,isData a) : 0 < (rowsT l).length := by
 cases l with
 | nil => cases h
 | cons a l =>
  unfold rowsT
  have hin : ∀ r,hashT a = r → inR r (a :: l) = true := fun r e => by
   unfold inR
   rw [List.any_cons,e]
   simp
  rcases hash_three (hd a List.mem_cons_self) with e | e | e
  ·simp [hin 0 e]
  ·rw [hin 1 e]; simp; omega
  ·rw [hin 2 e]; simp; omega
theorem TkOk.mem {tk : List Wo} {rows : List Int} (h : TkOk tk rows) (hr : RB rows) : ∀ w ∈ tk,2 ≤ w.pl ∧ w.pl < 5 := by
 intro w hw
 obtain ⟨j,hj,e⟩ := List.mem_iff_getElem.1 hw
 obtain ⟨h1,_⟩ := h.at_ j hj
 rw [at3_get hj,e] at h1
 have := hr.at_ (i := j) (by have := h.len; omega)
 omega
theorem pos_of {α : Type} {l : List α} (h : l ≠ []) : 0 < l.length := List.length_pos_iff.2 h
def noX (s : XM) : Prop := s.job = 0 ∧ (s.life = 0 ∨ s.life = 2 ∨ s.life = 3)
def opX (s : XM) : Prop := SB s ∧ s.life = 1 ∧ s.job = 0 ∧ clear s
def atX (s : XM) : Prop := ∃ n,AI n s ∧ MI n s.W ∧ s.job ≠ 0
end Go.Proofs.Ytmjjljngaefpaaa

/- What an instruction does by itself: what eval's functions answer. -/
import Derived.Test.YtcholkmididfmaaGreatDoorPb
namespace Go.Proofs.YtcholkmididfmaaGreatDoor
open Go.RowKit Go.Am Go.Sy
set_option linter.unusedVariables false
def sel4 (r : R4) (i : Int) : Int := if i = 0 then r.a else if i = 1 then r.b else if i = 2 then r.c else r.d
def set4 (r : R4) (i v : Int) : R4 := if i = 0 then ⟨v,r.b,r.c,r.d⟩ else if i = 1 then ⟨r.a,v,r.c,r.d⟩ else if i = 2 then ⟨r.a,r.b,v,r.d⟩ else ⟨r.a,r.b,r.c,v⟩
def localB (op : Int) : Bool := decide (op ≥ 1) && decide (op ≤ 7) || decide (op ≥ 18) && decide (op ≤ 22)
def xorI (a b : Int) : Int := IntKind.i64.wrap ((BitVec.ofInt IntKind.i64.bits a ^^^ BitVec.ofInt IntKind.i64.bits b).toNat : Int)
def oneI (b : Bool) : Int := if b = true then 1 else 0
def valF (x : Instr) (r : R4) : Int :=
 if x.op = 1 then x.n
 else if x.op = 2 then IntKind.i64.wrap (sel4 r x.b + sel4 r x.c)
 else if x.op = 3 then IntKind.i64.wrap (sel4 r x.b - sel4 r x.c)
 else if x.op = 4 then IntKind.i64.wrap (sel4 r x.b * sel4 r x.c)
 else if x.op = 5 then xorI (sel4 r x.b) (sel4 r x.c)
 else if x.op = 6 then oneI (decide (sel4 r x.b < sel4 r x.c))
 else oneI (sel4 r x.b == sel4 r x.c)
def locD : CtrD cod where
 pats := [.int .i64]
 pre := fun x => True
 res := fun (x : Int × Unit) => .b (localB x.1)
 objs := fun x => []
def valD : CtrD cod where
 pats := [.row 2,.row 11]
 pre := fun (x : Instr × R4 × Unit) => (x.1.op ≠ 1 → (0 ≤ x.1.b ∧ x.1.b < 4) ∧ 0 ≤ x.1.c ∧ x.1.c < 4)
 res := fun (x : Instr × R4 × Unit) => .i .i64 (valF x.1 x.2.1)
 objs := fun x => []
def at4P (r : R4) (n : Int) (K : Int → Prop) : Prop := ((0 : Int) ≤ n ∧ n < 4) ∧ ((n == 3) = true → K r.d) ∧ ((n == 3) = false → ((n == 2) = true → K r.c) ∧ ((n == 2) = false → ((n == 1) = true → K r.b) ∧ ((n == 1) = false → K r.a)))
theorem at4P_ok {r : R4} {n : Int} {K : Int → Prop} (h : 0 ≤ n ∧ n < 4) (k : K (sel4 r n)) : at4P r n K := by
 refine ⟨h,fun e => ?_,fun e3 => ⟨fun e => ?_,fun e2 => ⟨fun e => ?_,fun e1 => ?_⟩⟩⟩
 ·have e : n = 3 := eq_of_beq e
  subst e; exact k
 ·have e : n = 2 := eq_of_beq e
  subst e; exact k
 ·have e : n = 1 := eq_of_beq e
  subst e; exact k
 ·have h1 := ne_of_beq_false e1
  have h2 := ne_of_beq_false e2
  have h3 := ne_of_beq_false e3
  obtain rfl : n = 0 := by omega
  exact k
noncomputable def b88 : Code := Tryz.f88.body.getD .skip
noncomputable def b125 : Code := Tryz.f125.body.getD .skip
theorem lo_e (op : Int) : Go.Sy.Tree.holds (entryX F (lookC []) 200 Tryz.f88 b88 ⟨[],.b (localB op),[]⟩ [.i .i64 op]) = (
 (decide (op ≥ 1) = true → (decide (op ≤ 7) = true → true = localB op ∧ True) ∧ (decide (op ≤ 7) = false → (decide (op ≥ 18) = true → decide (op ≤ 22) = localB op ∧ True) ∧ (decide (op ≥ 18) = false → false = localB op ∧ True))) ∧
 (decide (op ≥ 1) = false → (decide (op ≥ 18) = true → decide (op ≤ 22) = localB op ∧ True) ∧ (decide (op ≥ 18) = false → false = localB op ∧ True))) := by kernel_rfl
theorem lo_ok (op : Int) : Paid (entryX F (lookC []) 200 Tryz.f88 b88 ⟨[],.b (localB op),[]⟩ [.i .i64 op]) := by
 refine ⟨?_⟩
 rw [lo_e]
 refine ⟨fun h1 => ⟨fun h2 => ⟨?_,trivial⟩,fun h2 => ⟨fun h3 => ⟨?_,trivial⟩,fun h3 => ⟨?_,trivial⟩⟩⟩,fun h1 => ⟨fun h3 => ⟨?_,trivial⟩,fun h3 => ⟨?_,trivial⟩⟩⟩ <;> simp_all [localB] <;> omega
theorem locOk : CtrOk1 F.S 88 (mkCtr locD) :=
 mkCtr_paid (fn := Tryz.f88) (body := b88) (ctr := lookC []) codOk noExt hookLow noneOk Tryz.func88 rfl rfl rfl locD 200 (fun _ => []) (show 1 ≤ Tryz.f88.ntmps by decide) (show Tryz.f88.ntmps ≤ 512 by decide) (by kernel_rfl) (fun _ _ => ⟨rfl,rfl⟩)
  (fun (x : Int × Unit) hp => lo_ok x.1) (fun x hp p hm => by cases hm)
def valL (x : Instr) (r : R4) (v : Int) : Prop := v = valF x r ∧ True
def valB (x : Instr) (r : R4) (b : Bool) : Prop := (b = true → valL x r 1) ∧ (b = false → valL x r 0)
theorem va_e (x : Instr) (r : R4) : Go.Sy.Tree.holds (entryX F (lookC []) 400 Tryz.f125 b125 ⟨[],.i .i64 (valF x r),[]⟩ [.agg (enc2 x),.agg (enc11 r)]) = (
 ((x.op == 1) = true → valL x r x.n) ∧ ((x.op == 1) = false →
 ((x.op == 2) = true → at4P r x.b fun u => at4P r x.c fun v => valL x r (IntKind.i64.wrap (u + v))) ∧ ((x.op == 2) = false →
 ((x.op == 3) = true → at4P r x.b fun u => at4P r x.c fun v => valL x r (IntKind.i64.wrap (u - v))) ∧ ((x.op == 3) = false →
 ((x.op == 4) = true → at4P r x.b fun u => at4P r x.c fun v => valL x r (IntKind.i64.wrap (u * v))) ∧ ((x.op == 4) = false →
 ((x.op == 5) = true → at4P r x.b fun u => at4P r x.c fun v => valL x r (xorI u v)) ∧ ((x.op == 5) = false →
 ((x.op == 6) = true → at4P r x.b fun u => at4P r x.c fun v => valB x r (decide (u < v))) ∧ ((x.op == 6) = false →
 at4P r x.b fun u => at4P r x.c fun v => valB x r (u == v)))))))) := by kernel_rfl
theorem va_ok (x : Instr) (r : R4) (h : x.op ≠ 1 → (0 ≤ x.b ∧ x.b < 4) ∧ 0 ≤ x.c ∧ x.c < 4) : Paid (entryX F (lookC []) 400 Tryz.f125 b125 ⟨[],.i .i64 (valF x r),[]⟩ [.agg (enc2 x),.agg (enc11 r)]) := by
 refine ⟨?_⟩
 rw [va_e]
 have bt : ∀ b : Bool,valF x r = oneI b → valB x r b := fun b e => ⟨fun hb => ⟨by rw [e,hb]; rfl,trivial⟩,fun hb => ⟨by rw [e,hb]; rfl,trivial⟩⟩
 refine ⟨fun e => ?_,fun n1 => ?_⟩
 ·exact ⟨by rw [valF,if_pos (eq_of_beq e)],trivial⟩
 have n1 := ne_of_beq_false n1
 obtain ⟨hb,hc⟩ := h n1
 refine ⟨fun e => at4P_ok hb (at4P_ok hc ⟨?_,trivial⟩),fun n2 => ⟨fun e => at4P_ok hb (at4P_ok hc ⟨?_,trivial⟩),fun n3 => ⟨fun e => at4P_ok hb (at4P_ok hc ⟨?_,trivial⟩),fun n4 => ⟨fun e => at4P_ok hb (at4P_ok hc ⟨?_,trivial⟩),fun n5 => ⟨fun e => at4P_ok hb (at4P_ok hc (bt _ ?_)),fun n6 => at4P_ok hb (at4P_ok hc (bt _ ?_))⟩⟩⟩⟩⟩
 ·rw [valF,if_neg n1,if_pos (eq_of_beq e)]
 ·rw [valF,if_neg n1,if_neg (ne_of_beq_false n2),if_pos (eq_of_beq e)]
 ·rw [valF,if_neg n1,if_neg (ne_of_beq_false n2),if_neg (ne_of_beq_false n3),if_pos (eq_of_beq e)]
 ·rw [valF,if_neg n1,if_neg (ne_of_beq_false n2),if_neg (ne_of_beq_false n3),if_neg (ne_of_beq_false n4),if_pos (eq_of_beq e)]
 ·rw [valF,if_neg n1,if_neg (ne_of_beq_false n2),if_neg (ne_of_beq_false n3),if_neg (ne_of_beq_false n4),if_neg (ne_of_beq_false n5),if_pos (eq_of_beq e)]
 ·rw [valF,if_neg n1,if_neg (ne_of_beq_false n2),if_neg (ne_of_beq_false n3),if_neg (ne_of_beq_false n4),if_neg (ne_of_beq_false n5),if_neg (ne_of_beq_false n6)]
theorem valOk : CtrOk1 F.S 125 (mkCtr valD) :=
 mkCtr_paid (fn := Tryz.f125) (body := b125) (ctr := lookC []) codOk noExt hookLow noneOk Tryz.func125 rfl rfl rfl valD 400 (fun _ => []) (show 2 ≤ Tryz.f125.ntmps by decide) (show Tryz.f125.ntmps ≤ 512 by decide) (by kernel_rfl) (fun _ _ => ⟨rfl,rfl⟩)
  (fun (x : Instr × R4 × Unit) hp => va_ok x.1 x.2.1 hp) (fun x hp p hm => by cases hm)
def nextF (p : List Instr) (ms : List Int) (at_ : Int) (r : R4) : Int × R4 × Bool :=
 if at_ < 0 ∨ at_ ≥ p.length ∨ mayB (at2 p at_) = false ∨ localB (at2 p at_).op = false then (at_,r,false)
 else if (at2 p at_).op ≥ 18 ∧ (at2 p at_).op ≠ 20 then
  if at_ ≥ ms.length ∨ at0 ms at_ < 0 ∨ at0 ms at_ ≥ p.length then (at_,r,false)
  else if (at2 p at_).op = 18 ∨ (at2 p at_).op = 21 then (if sel4 r (at2 p at_).a ≠ 0 then (IntKind.i64.wrap (at_ + 1),r,true) else (IntKind.i64.wrap (at0 ms at_ + 1),r,true))
  else if (at2 p at_).op = 19 then (IntKind.i64.wrap (at0 ms at_ + 1),r,true)
  else (at0 ms at_,r,true)
 else if (at2 p at_).op = 20 then (IntKind.i64.wrap (at_ + 1),r,true)
 else (IntKind.i64.wrap (at_ + 1),set4 r (at2 p at_).a (valF (at2 p at_) r),true)
def nxR (x : Int × R4 × Bool) : SV cod.T := .tup [.i .i64 x.1,.agg (enc11 x.2.1),.b x.2.2]
def nxD : CtrD cod where
 pats := [.tl 2,.tl 0,.int .i64,.row 11]
 pre := fun x => True
 res := fun (x : List Instr × List Int × Int × R4 × Unit) => nxR (nextF x.1 x.2.1 x.2.2.1 x.2.2.2.1)
 objs := fun x => []
def adD : CtrD cod where
 pats := [.row 2,.row 11]
 pre := fun (x : Instr × R4 × Unit) => 0 ≤ x.1.b ∧ x.1.b < 4
 res := fun (x : Instr × R4 × Unit) => .i .i64 (IntKind.i64.wrap (sel4 x.2.1 x.1.b + x.1.n))
 objs := fun x => []
noncomputable def b89 : Code := Tryz.f89.body.getD .skip
noncomputable def b126 : Code := Tryz.f126.body.getD .skip
noncomputable def v1 : List (FuncId × Ctr cod) := [(123,mkCtr mayD),(88,mkCtr locD),(125,mkCtr valD),(148,mkCtr fitD)]
end Go.Proofs.YtcholkmididfmaaGreatDoor
/- eval.Next, eval.Addr: their contracts are paid. -/
namespace Go.Proofs.YtcholkmididfmaaGreatDoor
open Go.RowKit Go.Am Go.Sy
set_option linter.unusedVariables false
set_option linter.unusedSimpArgs false
def st4P (r : R4) (n v : Int) (K : R4 → Prop) : Prop := ((0 : Int) ≤ n ∧ n < 4) ∧ ((n == 3) = true → K ⟨r.a,r.b,r.c,v⟩) ∧ ((n == 3) = false → ((n == 2) = true → K ⟨r.a,r.b,v,r.d⟩) ∧ ((n == 2) = false → ((n == 1) = true → K ⟨r.a,v,r.c,r.d⟩) ∧ ((n == 1) = false → K ⟨v,r.b,r.c,r.d⟩)))
theorem st4P_ok {r : R4} {n v : Int} {K : R4 → Prop} (h : 0 ≤ n ∧ n < 4) (k : K (set4 r n v)) : st4P r n v K := by
 refine ⟨h,fun e => ?_,fun e3 => ⟨fun e => ?_,fun e2 => ⟨fun e => ?_,fun e1 => ?_⟩⟩⟩
 ·have e : n = 3 := eq_of_beq e
  subst e; exact k
 ·have e : n = 2 := eq_of_beq e
  subst e; exact k
 ·have e : n = 1 := eq_of_beq e
  subst e; exact k
 ·have h1 := ne_of_beq_false e1
  have h2 := ne_of_beq_false e2
  have h3 := ne_of_beq_false e3
  obtain rfl : n = 0 := by omega
  exact k
section
variable (p : List Instr) (ms : List Int) (a : Int) (r : R4)
def nxL (a' : Int) (r' : R4) (b : Bool) : Prop := a' = (nextF p ms a r).1 ∧ r'.a = (nextF p ms a r).2.1.a ∧ r'.b = (nextF p ms a r).2.1.b ∧ r'.c = (nextF p ms a r).2.1.c ∧ r'.d = (nextF p ms a r).2.1.d ∧ b = (nextF p ms a r).2.2 ∧ True
theorem nxL_of {a' : Int} {r' : R4} {b : Bool} (h : nextF p ms a r = (a',r',b)) : nxL p ms a r a' r' b := by
 unfold nxL
 rw [h]
 exact ⟨rfl,rfl,rfl,rfl,rfl,rfl,trivial⟩
def swP (m : Int) : Prop :=
 (((at2 p a).op == 18) = true → at4P r (at2 p a).a fun u => ((u != 0) = true → nxL p ms a r (IntKind.i64.wrap (a + 1)) r true) ∧ ((u != 0) = false → nxL p ms a r (IntKind.i64.wrap (m + 1)) r true)) ∧ (((at2 p a).op == 18) = false →
 (((at2 p a).op == 21) = true → at4P r (at2 p a).a fun u => ((u != 0) = true → nxL p ms a r (IntKind.i64.wrap (a + 1)) r true) ∧ ((u != 0) = false → nxL p ms a r (IntKind.i64.wrap (m + 1)) r true)) ∧ (((at2 p a).op == 21) = false →
 (((at2 p a).op == 19) = true → nxL p ms a r (IntKind.i64.wrap (m + 1)) r true) ∧ (((at2 p a).op == 19) = false →
 (((at2 p a).op == 22) = true → nxL p ms a r m r true) ∧ (((at2 p a).op == 22) = false →
 (((at2 p a).op == 20) = true → nxL p ms a r (IntKind.i64.wrap (a + 1)) r true) ∧ (((at2 p a).op == 20) = false →
 valD.pre (at2 p a,r,()) ∧ st4P r (at2 p a).a (valF (at2 p a) r) fun r' => nxL p ms a r (IntKind.i64.wrap (a + 1)) r' true)))))
theorem nx_e : Go.Sy.Tree.holds (entryX F (lookC v1) 400 Tryz.f89 b89 ⟨[],nxR (nextF p ms a r),[]⟩ [.tl (T := T) 2 p,.tl (T := T) 0 ms,.i .i64 a,.agg (enc11 r)]) = (
 (decide (a < 0) = true → nxL p ms a r a r false) ∧ (decide (a < 0) = false →
 (decide (a ≥ (p.length : Int)) = true → nxL p ms a r a r false) ∧ (decide (a ≥ (p.length : Int)) = false →
 ((0 : Int) ≤ a ∧ a < (p.length : Int)) ∧ mayD.pre (at2 p a,()) ∧ ((!mayB (at2 p a)) = true → nxL p ms a r a r false) ∧ ((!mayB (at2 p a)) = false →
 ((0 : Int) ≤ a ∧ a < (p.length : Int)) ∧ locD.pre ((at2 p a).op,()) ∧ ((!localB (at2 p a).op) = true → nxL p ms a r a r false) ∧ ((!localB (at2 p a).op) = false →
 ((0 : Int) ≤ a ∧ a < (p.length : Int)) ∧ (decide ((at2 p a).op ≥ 18) = true →
   (((at2 p a).op != 20) = true → (decide (a ≥ (ms.length : Int)) = true → nxL p ms a r a r false) ∧ (decide (a ≥ (ms.length : Int)) = false → ((0 : Int) ≤ a ∧ a < (ms.length : Int)) ∧
     (decide (at0 ms a < 0) = true → nxL p ms a r a r false) ∧ (decide (at0 ms a < 0) = false → ((0 : Int) ≤ a ∧ a < (ms.length : Int)) ∧
     (decide (at0 ms a ≥ (p.length : Int)) = true → nxL p ms a r a r false) ∧ (decide (at0 ms a ≥ (p.length : Int)) = false → ((0 : Int) ≤ a ∧ a < (ms.length : Int)) ∧ swP p ms a r (at0 ms a))))) ∧
   (((at2 p a).op != 20) = false → swP p ms a r 0)) ∧ (decide ((at2 p a).op ≥ 18) = false → swP p ms a r 0)))))) := by kernel_rfl
theorem fit_a {x : Instr} (h : mayB x = true) (hs : shA x.op = 1) : 0 ≤ x.a ∧ x.a < 4 := by
 simp only [mayB,qj] at h
 have h := h.2.2.1
 rw [hs] at h
 simp only [fitB,mostK,qj,decide_eq_true_eq] at h
 exact ⟨h.1,by have := h.2; simp at this; omega⟩
theorem fit_b {x : Instr} (h : mayB x = true) (hs : shB x.op = 1) : 0 ≤ x.b ∧ x.b < 4 := by
 simp only [mayB,qj] at h
 have h := h.2.2.2.1
 rw [hs] at h
 simp only [fitB,mostK,qj,decide_eq_true_eq] at h
 exact ⟨h.1,by have := h.2; simp at this; omega⟩
theorem fit_c {x : Instr} (h : mayB x = true) (hs : shC x.op = 1) : 0 ≤ x.c ∧ x.c < 4 := by
 simp only [mayB,qj] at h
 have h := h.2.2.2.2.1
 rw [hs] at h
 simp only [fitB,mostK,qj,decide_eq_true_eq] at h
 exact ⟨h.1,by have := h.2; simp at this; omega⟩
theorem sw_ok {m : Int} (hm : mayB (at2 p a) = true) (hl : localB (at2 p a).op = true) (c1 : ¬ (a < 0 ∨ a ≥ p.length ∨ mayB (at2 p a) = false ∨ localB (at2 p a).op = false))
 (hr : (at2 p a).op ≥ 18 ∧ (at2 p a).op ≠ 20 → m = at0 ms a ∧ ¬ (a ≥ ms.length ∨ at0 ms a < 0 ∨ at0 ms a ≥ p.length)) : swP p ms a r m := by
 generalize hx : at2 p a = x at *
 have brn : ∀ (q : 18 ≤ x.op ∧ x.op ≠ 20) (o : x.op = 18 ∨ x.op = 21) (u : Int),u = sel4 r x.a → ((u != 0) = true → nxL p ms a r (IntKind.i64.wrap (a + 1)) r true) ∧ ((u != 0) = false → nxL p ms a r (IntKind.i64.wrap (m + 1)) r true) := by
  intro q o u hu
  obtain ⟨rfl,c3⟩ := hr q
  refine ⟨fun e => nxL_of _ _ _ _ ?_,fun e => nxL_of _ _ _ _ ?_⟩
  ·have e : u ≠ 0 := by simpa using e
   rw [nextF,hx,if_neg c1,if_pos q,if_neg c3,if_pos o,← hu,if_pos e]
  ·have e : u = 0 := by simpa using e
   rw [nextF,hx,if_neg c1,if_pos q,if_neg c3,if_pos o,← hu,if_neg (by omega)]
 unfold swP
 rw [hx]
 refine ⟨fun e => ?_,fun e1 => ⟨fun e => ?_,fun e2 => ⟨fun e => ?_,fun e3 => ⟨fun e => ?_,fun e4 => ⟨fun e => ?_,fun e5 => ?_⟩⟩⟩⟩⟩
 ·have e := eq_of_beq e
  exact at4P_ok (fit_a hm (by rw [e]; rfl)) (brn ⟨by omega,by omega⟩ (.inl e) _ rfl)
 ·have e := eq_of_beq e
  exact at4P_ok (fit_a hm (by rw [e]; rfl)) (brn ⟨by omega,by omega⟩ (.inr e) _ rfl)
 ·have e := eq_of_beq e
  obtain ⟨rfl,c3⟩ := hr ⟨by omega,by omega⟩
  exact nxL_of _ _ _ _ (by rw [nextF,hx,if_neg c1,if_pos ⟨by omega,by omega⟩,if_neg c3,if_neg (by omega),if_pos e])
 ·have e := eq_of_beq e
  obtain ⟨rfl,c3⟩ := hr ⟨by omega,by omega⟩
  exact nxL_of _ _ _ _ (by rw [nextF,hx,if_neg c1,if_pos ⟨by omega,by omega⟩,if_neg c3,if_neg (by omega),if_neg (by omega)])
 ·have e := eq_of_beq e
  exact nxL_of _ _ _ _ (by rw [nextF,hx,if_neg c1,if_neg (by omega),if_pos e])
 ·have e1 := ne_of_beq_false e1
  have e2 := ne_of_beq_false e2
  have e3 := ne_of_beq_false e3
  have e4 := ne_of_beq_false e4
  have e5 := ne_of_beq_false e5
  have hl := hl
  simp only [localB,Bool.or_eq_true,qj,decide_eq_true_eq] at hl
  have h7 : 1 ≤ x.op ∧ x.op ≤ 7 := by omega
  have sA : shA x.op = 1 := by unfold shA; rw [if_neg (by omega),if_neg (by omega),if_pos (by omega)]
  refine ⟨fun h1 => ⟨fit_b hm ?_,fit_c hm ?_⟩,st4P_ok (fit_a hm sA) (nxL_of _ _ _ _ ?_)⟩
  ·have h1 : x.op ≠ 1 := h1
   show shB x.op = 1
   unfold shB; rw [if_neg (by omega),if_pos (by omega)]
  ·have h1 : x.op ≠ 1 := h1
   show shC x.op = 1
   unfold shC; rw [if_pos (by omega)]
  ·rw [nextF,hx,if_neg c1,if_neg (by omega),if_neg (by omega)]
theorem nx_ok : Paid (entryX F (lookC v1) 400 Tryz.f89 b89 ⟨[],nxR (nextF p ms a r),[]⟩ [.tl (T := T) 2 p,.tl (T := T) 0 ms,.i .i64 a,.agg (enc11 r)]) := by
 refine ⟨?_⟩
 rw [nx_e]
 have bad : (a < 0 ∨ a ≥ p.length ∨ mayB (at2 p a) = false ∨ localB (at2 p a).op = false) → nxL p ms a r a r false := fun h => nxL_of _ _ _ _ (by rw [nextF,if_pos h])
 refine ⟨fun e => bad (.inl (qb e)),fun e1 => ⟨fun e => bad (.inr (.inl (qb e))),fun e2 => ?_⟩⟩
 have e1 := qc e1
 have e2 := qc e2
 have ha : 0 ≤ a ∧ a < (p.length : Int) := ⟨by omega,by omega⟩
 refine ⟨ha,trivial,fun e => bad (.inr (.inr (.inl (by simpa using e)))),fun e3 => ⟨ha,trivial,fun e => bad (.inr (.inr (.inr (by simpa using e)))),fun e4 => ?_⟩⟩
 have e3 : mayB (at2 p a) = true := by simpa using e3
 have e4 : localB (at2 p a).op = true := by simpa using e4
 have c1 : ¬ (a < 0 ∨ a ≥ p.length ∨ mayB (at2 p a) = false ∨ localB (at2 p a).op = false) := by rw [e3,e4]; simp; omega
 refine ⟨ha,fun e5 => ⟨fun e6 => ?_,fun e6 => sw_ok p ms a r e3 e4 c1 fun h => absurd (by simpa using e6) h.2⟩,fun e5 => sw_ok p ms a r e3 e4 c1 fun h => absurd h.1 (qc e5)⟩
 have e5 : (at2 p a).op ≥ 18 := qb e5
 have e6 : (at2 p a).op ≠ 20 := by simpa using e6
 have bad2 : (a ≥ ms.length ∨ at0 ms a < 0 ∨ at0 ms a ≥ p.length) → nxL p ms a r a r false := fun h => nxL_of _ _ _ _ (by rw [nextF,if_neg c1,if_pos ⟨e5,e6⟩,if_pos h])
 refine ⟨fun e => bad2 (.inl (qb e)),fun e7 => ?_⟩
 have e7 := qc e7
 have hb : 0 ≤ a ∧ a < (ms.length : Int) := ⟨by omega,by omega⟩
 refine ⟨hb,fun e => bad2 (.inr (.inl (qb e))),fun e8 => ⟨hb,fun e => bad2 (.inr (.inr (qb e))),fun e9 => ⟨hb,sw_ok p ms a r e3 e4 c1 fun h => ⟨rfl, ?_⟩⟩⟩⟩
 have e8 := qc e8
 have e9 := qc e9
 rintro (h | h | h)
 ·exact e7 h
 ·exact e8 h
 ·exact e9 h
end
theorem v1Ok : CtrOk F.S (lookC v1) := lookC_ok fun p h => by
 have h : p ∈ [_,_,_,_] := h
 simp only [List.mem_cons,List.not_mem_nil,or_false] at h
 rcases h with rfl | rfl | rfl | rfl
 ·exact mayOk
 ·exact locOk
 ·exact valOk
 ·exact fitOk
theorem nxOk : CtrOk1 F.S 89 (mkCtr nxD) :=
 mkCtr_paid (fn := Tryz.f89) (body := b89) (ctr := lookC v1) codOk noExt hookLow v1Ok Tryz.func89 rfl rfl rfl nxD 400 (fun _ => []) (show 4 ≤ Tryz.f89.ntmps by decide) (show Tryz.f89.ntmps ≤ 512 by decide) (by kernel_rfl) (fun _ _ => ⟨rfl,rfl⟩)
  (fun (x : List Instr × List Int × Int × R4 × Unit) hp => nx_ok x.1 x.2.1 x.2.2.1 x.2.2.2.1) (fun x hp p hm => by cases hm)
theorem ad_e (x : Instr) (r : R4) : Go.Sy.Tree.holds (entryX F (lookC v1) 400 Tryz.f126 b126 ⟨[],.i .i64 (IntKind.i64.wrap (sel4 r x.b + x.n)),[]⟩ [.agg (enc2 x),.agg (enc11 r)]) = (
 fitD.pre ((1 : Int),x.b,()) ∧ ((!fitB 1 x.b) = true → -1 = IntKind.i64.wrap (sel4 r x.b + x.n) ∧ True) ∧ ((!fitB 1 x.b) = false → at4P r x.b fun u => IntKind.i64.wrap (u + x.n) = IntKind.i64.wrap (sel4 r x.b + x.n) ∧ True)) := by kernel_rfl
theorem ad_ok (x : Instr) (r : R4) (h : 0 ≤ x.b ∧ x.b < 4) : Paid (entryX F (lookC v1) 400 Tryz.f126 b126 ⟨[],.i .i64 (IntKind.i64.wrap (sel4 r x.b + x.n)),[]⟩ [.agg (enc2 x),.agg (enc11 r)]) := by
 refine ⟨?_⟩
 rw [ad_e]
 have hf : fitB 1 x.b = true := by
  simp only [fitB,mostK,qj,decide_eq_true_eq]
  exact ⟨h.1,by simp; omega⟩
 rw [hf]
 exact ⟨trivial,nofun,fun _ => at4P_ok h ⟨rfl,trivial⟩⟩
theorem adOk : CtrOk1 F.S 126 (mkCtr adD) :=
 mkCtr_paid (fn := Tryz.f126) (body := b126) (ctr := lookC v1) codOk noExt hookLow v1Ok Tryz.func126 rfl rfl rfl adD 400 (fun _ => []) (show 2 ≤ Tryz.f126.ntmps by decide) (show Tryz.f126.ntmps ≤ 512 by decide) (by kernel_rfl) (fun _ _ => ⟨rfl,rfl⟩)
  (fun (x : Instr × R4 × Unit) hp => ad_ok x.1 x.2.1 hp) (fun x hp p hm => by cases hm)
end Go.Proofs.YtcholkmididfmaaGreatDoor

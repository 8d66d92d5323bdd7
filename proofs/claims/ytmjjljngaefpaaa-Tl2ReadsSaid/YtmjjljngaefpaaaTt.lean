/- Three runs together: the contract. Printed by a program (gen_tt.py). -/
import Derived.Test.YtmjjljngaefpaaaTi
namespace Go.Proofs.Ytmjjljngaefpaaa
open Go.RowKit Go.Am Go.Sy
open Go.IntKind (i64 u64)
set_option linter.unusedVariables false
noncomputable def lPk : List (FuncId × Ctr cod) := [(50,mkCtr badD)]
theorem lPkOk : CtrOk F.S (lookC lPk) := lookC_ok (LOk.cons badOk LOk.nil)
theorem peek_e (s : Mw) (k : Int) : Tree.holds (entryX F (lookC lPk) 400 Try.f16 b16p ⟨[],.i .i64 (at0 s.ws k),[]⟩ [.fp (enc8 s),.i .i64 k]) = (badD.pre (Mw.mk s.ws,k,()) ∧ (0 ≤ k ∧ k < (s.ws.length : Int)) ∧ at0 s.ws k = at0 s.ws k ∧ True) := by kernel_rfl
theorem peek_e_ok (s : Mw) (k : Int) (h : 0 ≤ k ∧ k < (s.ws.length : Int)) : Paid (entryX F (lookC lPk) 400 Try.f16 b16p ⟨[],.i .i64 (at0 s.ws k),[]⟩ [.fp (enc8 s),.i .i64 k]) := by
 refine ⟨?_⟩
 rw [peek_e]
 exact ⟨h,h,rfl,trivial⟩
theorem peekOk : CtrOk1 F.S 16 (mkCtr peekD) :=
 mkCtr_paid (fn := Try.f16) (body := b16p) (ctr := lookC lPk) codOk noExt hookLow lPkOk Try.func16 rfl rfl (by kernel_rfl) peekD 400 (fun _ => []) (show 2 ≤ Try.f16.ntmps by decide) (show Try.f16.ntmps ≤ 512 by decide) (by kernel_rfl) (fun _ _ => ⟨rfl,rfl⟩)
  (fun (x : Mw × Int × Unit) h => peek_e_ok x.1 x.2.1 h) (fun x h q hm => by cases hm)
theorem aCtr_ok {f : FuncId} {c : Ctr cod} (hc : CtrOk1 F.S f c) : CtrOk1 F.S f (aCtr c) := by
 intro E lo wlo args h H K av hh hS hA
 obtain ⟨w,H',sv,h',E',r1,r2,r3,r4,r5,r6,r7⟩ := hc E lo wlo args _ H _ av hh hS hA
 simp only at r7
 split at r7
 ·cases r6
  exact ⟨_,H',_,h',E',r1,r2,r3,r4,r5,.a _,r7⟩
 ·exact ⟨w,H',sv,h',E',r1,r2,r3,r4,r5,r6,r7⟩
theorem lGOk : CtrOk F.S (lookC lG) := lookC_ok (LOk.cons (padCtr_ok 33 (nextOk _)) (LOk.cons (aCtr_ok dataOk) (LOk.cons (aCtr_ok threadOk) (LOk.cons (lenCtr_ok _ _ peekOk) (LOk.cons (litCtr_ok _ sizeOk) (LOk.cons mayOk (LOk.cons badOk LOk.nil)))))))
abbrev Ok3 (cl : Int) (l mv : List Int) : Prop := (cl = 1 ∨ cl = 2) ∧ l.length ≤ 200 ∧ mv.length ≤ 50
section
variable {cl : Int} {l mv : List Int}
theorem e_ok (h : Ok3 cl l mv) : Paid (eG cl l mv) := by
 refine ⟨?_⟩
 rw [g_e]
 refine ⟨⟨rfl,by decide,by decide⟩,⟨by decide,by decide⟩,⟨rfl,by decide,by decide⟩,⟨by decide,by decide⟩,⟨rfl,by decide,by decide⟩,⟨by decide,by decide⟩,⟨rfl,by decide,by decide⟩,⟨by decide,by decide⟩,
  ⟨0,0,curT cl l mv 0,curT cl l mv 0,curT cl l mv 0,M10,[],0⟩,rfl,rfl,rfl,mpE_mk (meE_mk (rs_mk (rs_mk (rs_mk ⟨rfl,rfl,rfl,⟨h,Nat.zero_le _,rfl,rfl,rfl,rfl,rfl,rfl⟩,trivial⟩))))⟩
theorem i600 {i n : Nat} (h : i < n + 300) (hn : n ≤ 200) : i ≤ 600 := by omega
theorem opt_t {R S : RM} (h : some R = opt true S) : S = R := by cases h; rfl
theorem opt_f {o : Option RM} {S : RM} (h : o = opt false S) : o = none := h
theorem pA000 (x : LS) (h : StA cl l mv false false false x) : Paid (cG cl l mv 13 (cutA cl l mv false false false) x) := ⟨by rw [gA000]; exact head_ok h (no_fin h (.inl rfl))⟩
theorem pA001 (x : LS) (h : StA cl l mv false false true x) : Paid (cG cl l mv 13 (cutA cl l mv false false true) x) := ⟨by rw [gA001]; exact head_ok h (no_fin h (.inl rfl))⟩
theorem pA010 (x : LS) (h : StA cl l mv false true false x) : Paid (cG cl l mv 13 (cutA cl l mv false true false) x) := ⟨by rw [gA010]; exact head_ok h (no_fin h (.inl rfl))⟩
theorem pA011 (x : LS) (h : StA cl l mv false true true x) : Paid (cG cl l mv 13 (cutA cl l mv false true true) x) := ⟨by rw [gA011]; exact head_ok h (no_fin h (.inl rfl))⟩
theorem pA100 (x : LS) (h : StA cl l mv true false false x) : Paid (cG cl l mv 13 (cutA cl l mv true false false) x) := ⟨by rw [gA100]; exact head_ok h (no_fin h (.inr (.inl rfl)))⟩
theorem pA101 (x : LS) (h : StA cl l mv true false true x) : Paid (cG cl l mv 13 (cutA cl l mv true false true) x) := ⟨by rw [gA101]; exact head_ok h (no_fin h (.inr (.inl rfl)))⟩
theorem pA110 (x : LS) (h : StA cl l mv true true false x) : Paid (cG cl l mv 13 (cutA cl l mv true true false) x) := ⟨by rw [gA110]; exact head_ok h (no_fin h (.inr (.inr rfl)))⟩
theorem pA111 (x : LS) (h : StA cl l mv true true true x) : Paid (cG cl l mv 13 (cutA cl l mv true true true) x) := ⟨by rw [gA111]; exact head_ok h (fin_ok h)⟩
theorem pB000 (x : LS) (h : StB cl l mv false false false x) : Paid (cG cl l mv 18 (cutB cl l mv false false false) x) := by
 have hp := pk_b l x.i
 have i6 := i600 h.i h.st.ok.2.1
 rw [← h.t] at hp
 have ht : x.t = 0 ∨ x.t = 1 ∨ x.t = 2 := by omega
 obtain ⟨i,n,A,B,C,M,sums,t⟩ := x
 have ht : t = 0 ∨ t = 1 ∨ t = 2 := ht
 rcases ht with e | e | e <;> subst e <;> refine ⟨?_⟩
 ·have e := gB0000 cl l mv (⟨i,n,A,B,C,M,sums,0⟩ : LS)
  rw [show ({ (⟨i,n,A,B,C,M,sums,0⟩ : LS) with t := 0 } : LS) = (⟨i,n,A,B,C,M,sums,0⟩ : LS) from rfl] at e
  rw [e]
  exact sta_ok h.st.ok i6 (by decide) h.t h.st.n (.inl (opt_f h.st.u0)) fun q hq k hk => leafT0 (x := (⟨i,n,A,B,C,M,sums,0⟩ : LS)) h rfl hq hk
 ·have e := gB0001 cl l mv (⟨i,n,A,B,C,M,sums,1⟩ : LS)
  rw [show ({ (⟨i,n,A,B,C,M,sums,1⟩ : LS) with t := 1 } : LS) = (⟨i,n,A,B,C,M,sums,1⟩ : LS) from rfl] at e
  rw [e]
  exact sta_ok h.st.ok i6 (by decide) h.t h.st.n (.inl (opt_f h.st.u1)) fun q hq k hk => leafT1 (x := (⟨i,n,A,B,C,M,sums,1⟩ : LS)) h rfl hq hk
 ·have e := gB0002 cl l mv (⟨i,n,A,B,C,M,sums,2⟩ : LS)
  rw [show ({ (⟨i,n,A,B,C,M,sums,2⟩ : LS) with t := 2 } : LS) = (⟨i,n,A,B,C,M,sums,2⟩ : LS) from rfl] at e
  rw [e]
  exact sta_ok h.st.ok i6 (by decide) h.t h.st.n (.inl (opt_f h.st.u2)) fun q hq k hk => leafT2 (x := (⟨i,n,A,B,C,M,sums,2⟩ : LS)) h rfl hq hk
theorem pB001 (x : LS) (h : StB cl l mv false false true x) : Paid (cG cl l mv 18 (cutB cl l mv false false true) x) := by
 have hp := pk_b l x.i
 have i6 := i600 h.i h.st.ok.2.1
 rw [← h.t] at hp
 have ht : x.t = 0 ∨ x.t = 1 ∨ x.t = 2 := by omega
 obtain ⟨i,n,A,B,C,M,sums,t⟩ := x
 have ht : t = 0 ∨ t = 1 ∨ t = 2 := ht
 rcases ht with e | e | e <;> subst e <;> refine ⟨?_⟩
 ·have e := gB0010 cl l mv (⟨i,n,A,B,C,M,sums,0⟩ : LS)
  rw [show ({ (⟨i,n,A,B,C,M,sums,0⟩ : LS) with t := 0 } : LS) = (⟨i,n,A,B,C,M,sums,0⟩ : LS) from rfl] at e
  rw [e]
  exact sta_ok h.st.ok i6 (by decide) h.t h.st.n (.inl (opt_f h.st.u0)) fun q hq k hk => leafT0 (x := (⟨i,n,A,B,C,M,sums,0⟩ : LS)) h rfl hq hk
 ·have e := gB0011 cl l mv (⟨i,n,A,B,C,M,sums,1⟩ : LS)
  rw [show ({ (⟨i,n,A,B,C,M,sums,1⟩ : LS) with t := 1 } : LS) = (⟨i,n,A,B,C,M,sums,1⟩ : LS) from rfl] at e
  rw [e]
  exact sta_ok h.st.ok i6 (by decide) h.t h.st.n (.inl (opt_f h.st.u1)) fun q hq k hk => leafT1 (x := (⟨i,n,A,B,C,M,sums,1⟩ : LS)) h rfl hq hk
 ·have e := gB0012 cl l mv (⟨i,n,A,B,C,M,sums,2⟩ : LS)
  rw [show ({ (⟨i,n,A,B,C,M,sums,2⟩ : LS) with t := 2 } : LS) = (⟨i,n,A,B,C,M,sums,2⟩ : LS) from rfl] at e
  rw [e]
  exact had_ok h.st.ok i6 (by decide) h.t h.st.n h.st.u2 fun q hq k hk => leafT2 (x := (⟨i,n,A,B,C,M,sums,2⟩ : LS)) h rfl hq hk
theorem pB010 (x : LS) (h : StB cl l mv false true false x) : Paid (cG cl l mv 18 (cutB cl l mv false true false) x) := by
 have hp := pk_b l x.i
 have i6 := i600 h.i h.st.ok.2.1
 rw [← h.t] at hp
 have ht : x.t = 0 ∨ x.t = 1 ∨ x.t = 2 := by omega
 obtain ⟨i,n,A,B,C,M,sums,t⟩ := x
 have ht : t = 0 ∨ t = 1 ∨ t = 2 := ht
 rcases ht with e | e | e <;> subst e <;> refine ⟨?_⟩
 ·have e := gB0100 cl l mv (⟨i,n,A,B,C,M,sums,0⟩ : LS)
  rw [show ({ (⟨i,n,A,B,C,M,sums,0⟩ : LS) with t := 0 } : LS) = (⟨i,n,A,B,C,M,sums,0⟩ : LS) from rfl] at e
  rw [e]
  exact sta_ok h.st.ok i6 (by decide) h.t h.st.n (.inl (opt_f h.st.u0)) fun q hq k hk => leafT0 (x := (⟨i,n,A,B,C,M,sums,0⟩ : LS)) h rfl hq hk
 ·have e := gB0101 cl l mv (⟨i,n,A,B,C,M,sums,1⟩ : LS)
  rw [show ({ (⟨i,n,A,B,C,M,sums,1⟩ : LS) with t := 1 } : LS) = (⟨i,n,A,B,C,M,sums,1⟩ : LS) from rfl] at e
  rw [e]
  exact had_ok h.st.ok i6 (by decide) h.t h.st.n h.st.u1 fun q hq k hk => leafT1 (x := (⟨i,n,A,B,C,M,sums,1⟩ : LS)) h rfl hq hk
 ·have e := gB0102 cl l mv (⟨i,n,A,B,C,M,sums,2⟩ : LS)
  rw [show ({ (⟨i,n,A,B,C,M,sums,2⟩ : LS) with t := 2 } : LS) = (⟨i,n,A,B,C,M,sums,2⟩ : LS) from rfl] at e
  rw [e]
  exact sta_ok h.st.ok i6 (by decide) h.t h.st.n (.inl (opt_f h.st.u2)) fun q hq k hk => leafT2 (x := (⟨i,n,A,B,C,M,sums,2⟩ : LS)) h rfl hq hk
theorem pB011 (x : LS) (h : StB cl l mv false true true x) : Paid (cG cl l mv 18 (cutB cl l mv false true true) x) := by
 have hp := pk_b l x.i
 have i6 := i600 h.i h.st.ok.2.1
 rw [← h.t] at hp
 have ht : x.t = 0 ∨ x.t = 1 ∨ x.t = 2 := by omega
 obtain ⟨i,n,A,B,C,M,sums,t⟩ := x
 have ht : t = 0 ∨ t = 1 ∨ t = 2 := ht
 rcases ht with e | e | e <;> subst e <;> refine ⟨?_⟩
 ·have e := gB0110 cl l mv (⟨i,n,A,B,C,M,sums,0⟩ : LS)
  rw [show ({ (⟨i,n,A,B,C,M,sums,0⟩ : LS) with t := 0 } : LS) = (⟨i,n,A,B,C,M,sums,0⟩ : LS) from rfl] at e
  rw [e]
  exact sta_ok h.st.ok i6 (by decide) h.t h.st.n (.inl (opt_f h.st.u0)) fun q hq k hk => leafT0 (x := (⟨i,n,A,B,C,M,sums,0⟩ : LS)) h rfl hq hk
 ·have e := gB0111 cl l mv (⟨i,n,A,B,C,M,sums,1⟩ : LS)
  rw [show ({ (⟨i,n,A,B,C,M,sums,1⟩ : LS) with t := 1 } : LS) = (⟨i,n,A,B,C,M,sums,1⟩ : LS) from rfl] at e
  rw [e]
  exact had_ok h.st.ok i6 (by decide) h.t h.st.n h.st.u1 fun q hq k hk => leafT1 (x := (⟨i,n,A,B,C,M,sums,1⟩ : LS)) h rfl hq hk
 ·have e := gB0112 cl l mv (⟨i,n,A,B,C,M,sums,2⟩ : LS)
  rw [show ({ (⟨i,n,A,B,C,M,sums,2⟩ : LS) with t := 2 } : LS) = (⟨i,n,A,B,C,M,sums,2⟩ : LS) from rfl] at e
  rw [e]
  exact had_ok h.st.ok i6 (by decide) h.t h.st.n h.st.u2 fun q hq k hk => leafT2 (x := (⟨i,n,A,B,C,M,sums,2⟩ : LS)) h rfl hq hk
theorem pB100 (x : LS) (h : StB cl l mv true false false x) : Paid (cG cl l mv 18 (cutB cl l mv true false false) x) := by
 have hp := pk_b l x.i
 have i6 := i600 h.i h.st.ok.2.1
 rw [← h.t] at hp
 have ht : x.t = 0 ∨ x.t = 1 ∨ x.t = 2 := by omega
 obtain ⟨i,n,A,B,C,M,sums,t⟩ := x
 have ht : t = 0 ∨ t = 1 ∨ t = 2 := ht
 rcases ht with e | e | e <;> subst e <;> refine ⟨?_⟩
 ·have e := gB1000 cl l mv (⟨i,n,A,B,C,M,sums,0⟩ : LS)
  rw [show ({ (⟨i,n,A,B,C,M,sums,0⟩ : LS) with t := 0 } : LS) = (⟨i,n,A,B,C,M,sums,0⟩ : LS) from rfl] at e
  rw [e]
  exact had_ok h.st.ok i6 (by decide) h.t h.st.n h.st.u0 fun q hq k hk => leafT0 (x := (⟨i,n,A,B,C,M,sums,0⟩ : LS)) h rfl hq hk
 ·have e := gB1001 cl l mv (⟨i,n,A,B,C,M,sums,1⟩ : LS)
  rw [show ({ (⟨i,n,A,B,C,M,sums,1⟩ : LS) with t := 1 } : LS) = (⟨i,n,A,B,C,M,sums,1⟩ : LS) from rfl] at e
  rw [e]
  exact sta_ok h.st.ok i6 (by decide) h.t h.st.n (.inl (opt_f h.st.u1)) fun q hq k hk => leafT1 (x := (⟨i,n,A,B,C,M,sums,1⟩ : LS)) h rfl hq hk
 ·have e := gB1002 cl l mv (⟨i,n,A,B,C,M,sums,2⟩ : LS)
  rw [show ({ (⟨i,n,A,B,C,M,sums,2⟩ : LS) with t := 2 } : LS) = (⟨i,n,A,B,C,M,sums,2⟩ : LS) from rfl] at e
  rw [e]
  exact sta_ok h.st.ok i6 (by decide) h.t h.st.n (.inl (opt_f h.st.u2)) fun q hq k hk => leafT2 (x := (⟨i,n,A,B,C,M,sums,2⟩ : LS)) h rfl hq hk
theorem pB101 (x : LS) (h : StB cl l mv true false true x) : Paid (cG cl l mv 18 (cutB cl l mv true false true) x) := by
 have hp := pk_b l x.i
 have i6 := i600 h.i h.st.ok.2.1
 rw [← h.t] at hp
 have ht : x.t = 0 ∨ x.t = 1 ∨ x.t = 2 := by omega
 obtain ⟨i,n,A,B,C,M,sums,t⟩ := x
 have ht : t = 0 ∨ t = 1 ∨ t = 2 := ht
 rcases ht with e | e | e <;> subst e <;> refine ⟨?_⟩
 ·have e := gB1010 cl l mv (⟨i,n,A,B,C,M,sums,0⟩ : LS)
  rw [show ({ (⟨i,n,A,B,C,M,sums,0⟩ : LS) with t := 0 } : LS) = (⟨i,n,A,B,C,M,sums,0⟩ : LS) from rfl] at e
  rw [e]
  exact had_ok h.st.ok i6 (by decide) h.t h.st.n h.st.u0 fun q hq k hk => leafT0 (x := (⟨i,n,A,B,C,M,sums,0⟩ : LS)) h rfl hq hk
 ·have e := gB1011 cl l mv (⟨i,n,A,B,C,M,sums,1⟩ : LS)
  rw [show ({ (⟨i,n,A,B,C,M,sums,1⟩ : LS) with t := 1 } : LS) = (⟨i,n,A,B,C,M,sums,1⟩ : LS) from rfl] at e
  rw [e]
  exact sta_ok h.st.ok i6 (by decide) h.t h.st.n (.inl (opt_f h.st.u1)) fun q hq k hk => leafT1 (x := (⟨i,n,A,B,C,M,sums,1⟩ : LS)) h rfl hq hk
 ·have e := gB1012 cl l mv (⟨i,n,A,B,C,M,sums,2⟩ : LS)
  rw [show ({ (⟨i,n,A,B,C,M,sums,2⟩ : LS) with t := 2 } : LS) = (⟨i,n,A,B,C,M,sums,2⟩ : LS) from rfl] at e
  rw [e]
  exact had_ok h.st.ok i6 (by decide) h.t h.st.n h.st.u2 fun q hq k hk => leafT2 (x := (⟨i,n,A,B,C,M,sums,2⟩ : LS)) h rfl hq hk
theorem pB110 (x : LS) (h : StB cl l mv true true false x) : Paid (cG cl l mv 18 (cutB cl l mv true true false) x) := by
 have hp := pk_b l x.i
 have i6 := i600 h.i h.st.ok.2.1
 rw [← h.t] at hp
 have ht : x.t = 0 ∨ x.t = 1 ∨ x.t = 2 := by omega
 obtain ⟨i,n,A,B,C,M,sums,t⟩ := x
 have ht : t = 0 ∨ t = 1 ∨ t = 2 := ht
 rcases ht with e | e | e <;> subst e <;> refine ⟨?_⟩
 ·have e := gB1100 cl l mv (⟨i,n,A,B,C,M,sums,0⟩ : LS)
  rw [show ({ (⟨i,n,A,B,C,M,sums,0⟩ : LS) with t := 0 } : LS) = (⟨i,n,A,B,C,M,sums,0⟩ : LS) from rfl] at e
  rw [e]
  exact had_ok h.st.ok i6 (by decide) h.t h.st.n h.st.u0 fun q hq k hk => leafT0 (x := (⟨i,n,A,B,C,M,sums,0⟩ : LS)) h rfl hq hk
 ·have e := gB1101 cl l mv (⟨i,n,A,B,C,M,sums,1⟩ : LS)
  rw [show ({ (⟨i,n,A,B,C,M,sums,1⟩ : LS) with t := 1 } : LS) = (⟨i,n,A,B,C,M,sums,1⟩ : LS) from rfl] at e
  rw [e]
  exact had_ok h.st.ok i6 (by decide) h.t h.st.n h.st.u1 fun q hq k hk => leafT1 (x := (⟨i,n,A,B,C,M,sums,1⟩ : LS)) h rfl hq hk
 ·have e := gB1102 cl l mv (⟨i,n,A,B,C,M,sums,2⟩ : LS)
  rw [show ({ (⟨i,n,A,B,C,M,sums,2⟩ : LS) with t := 2 } : LS) = (⟨i,n,A,B,C,M,sums,2⟩ : LS) from rfl] at e
  rw [e]
  exact sta_ok h.st.ok i6 (by decide) h.t h.st.n (.inl (opt_f h.st.u2)) fun q hq k hk => leafT2 (x := (⟨i,n,A,B,C,M,sums,2⟩ : LS)) h rfl hq hk
theorem pB111 (x : LS) (h : StB cl l mv true true true x) : Paid (cG cl l mv 18 (cutB cl l mv true true true) x) := by
 have hp := pk_b l x.i
 have i6 := i600 h.i h.st.ok.2.1
 rw [← h.t] at hp
 have ht : x.t = 0 ∨ x.t = 1 ∨ x.t = 2 := by omega
 obtain ⟨i,n,A,B,C,M,sums,t⟩ := x
 have ht : t = 0 ∨ t = 1 ∨ t = 2 := ht
 rcases ht with e | e | e <;> subst e <;> refine ⟨?_⟩
 ·have e := gB1110 cl l mv (⟨i,n,A,B,C,M,sums,0⟩ : LS)
  rw [show ({ (⟨i,n,A,B,C,M,sums,0⟩ : LS) with t := 0 } : LS) = (⟨i,n,A,B,C,M,sums,0⟩ : LS) from rfl] at e
  rw [e]
  exact had_ok h.st.ok i6 (by decide) h.t h.st.n h.st.u0 fun q hq k hk => leafT0 (x := (⟨i,n,A,B,C,M,sums,0⟩ : LS)) h rfl hq hk
 ·have e := gB1111 cl l mv (⟨i,n,A,B,C,M,sums,1⟩ : LS)
  rw [show ({ (⟨i,n,A,B,C,M,sums,1⟩ : LS) with t := 1 } : LS) = (⟨i,n,A,B,C,M,sums,1⟩ : LS) from rfl] at e
  rw [e]
  exact had_ok h.st.ok i6 (by decide) h.t h.st.n h.st.u1 fun q hq k hk => leafT1 (x := (⟨i,n,A,B,C,M,sums,1⟩ : LS)) h rfl hq hk
 ·have e := gB1112 cl l mv (⟨i,n,A,B,C,M,sums,2⟩ : LS)
  rw [show ({ (⟨i,n,A,B,C,M,sums,2⟩ : LS) with t := 2 } : LS) = (⟨i,n,A,B,C,M,sums,2⟩ : LS) from rfl] at e
  rw [e]
  exact had_ok h.st.ok i6 (by decide) h.t h.st.n h.st.u2 fun q hq k hk => leafT2 (x := (⟨i,n,A,B,C,M,sums,2⟩ : LS)) h rfl hq hk
theorem pT0100 (x : LS) (h : StT cl l mv 0 true false false x) : Paid (cG cl l mv 30 (cutT cl l mv 0 true false false) x) := ⟨by rw [gT0100]; exact pick_ok h.ok.1 (i600 h.i h.ok.2.1) (opt_t h.u0) h.tt h.sums.symm fun y hy q hq s hs => leafA0 (a := true) h (opt_t h.u0) hy hq hs⟩
theorem pT0101 (x : LS) (h : StT cl l mv 0 true false true x) : Paid (cG cl l mv 30 (cutT cl l mv 0 true false true) x) := ⟨by rw [gT0101]; exact pick_ok h.ok.1 (i600 h.i h.ok.2.1) (opt_t h.u0) h.tt h.sums.symm fun y hy q hq s hs => leafA0 (a := true) h (opt_t h.u0) hy hq hs⟩
theorem pT0110 (x : LS) (h : StT cl l mv 0 true true false x) : Paid (cG cl l mv 30 (cutT cl l mv 0 true true false) x) := ⟨by rw [gT0110]; exact pick_ok h.ok.1 (i600 h.i h.ok.2.1) (opt_t h.u0) h.tt h.sums.symm fun y hy q hq s hs => leafA0 (a := true) h (opt_t h.u0) hy hq hs⟩
theorem pT0111 (x : LS) (h : StT cl l mv 0 true true true x) : Paid (cG cl l mv 30 (cutT cl l mv 0 true true true) x) := ⟨by rw [gT0111]; exact pick_ok h.ok.1 (i600 h.i h.ok.2.1) (opt_t h.u0) h.tt h.sums.symm fun y hy q hq s hs => leafA0 (a := true) h (opt_t h.u0) hy hq hs⟩
theorem pT1010 (x : LS) (h : StT cl l mv 1 false true false x) : Paid (cG cl l mv 30 (cutT cl l mv 1 false true false) x) := ⟨by rw [gT1010]; exact pick_ok h.ok.1 (i600 h.i h.ok.2.1) (opt_t h.u1) h.tt h.sums.symm fun y hy q hq s hs => leafA1 (b := true) h (opt_t h.u1) hy hq hs⟩
theorem pT1011 (x : LS) (h : StT cl l mv 1 false true true x) : Paid (cG cl l mv 30 (cutT cl l mv 1 false true true) x) := ⟨by rw [gT1011]; exact pick_ok h.ok.1 (i600 h.i h.ok.2.1) (opt_t h.u1) h.tt h.sums.symm fun y hy q hq s hs => leafA1 (b := true) h (opt_t h.u1) hy hq hs⟩
theorem pT1110 (x : LS) (h : StT cl l mv 1 true true false x) : Paid (cG cl l mv 30 (cutT cl l mv 1 true true false) x) := ⟨by rw [gT1110]; exact pick_ok h.ok.1 (i600 h.i h.ok.2.1) (opt_t h.u1) h.tt h.sums.symm fun y hy q hq s hs => leafA1 (b := true) h (opt_t h.u1) hy hq hs⟩
theorem pT1111 (x : LS) (h : StT cl l mv 1 true true true x) : Paid (cG cl l mv 30 (cutT cl l mv 1 true true true) x) := ⟨by rw [gT1111]; exact pick_ok h.ok.1 (i600 h.i h.ok.2.1) (opt_t h.u1) h.tt h.sums.symm fun y hy q hq s hs => leafA1 (b := true) h (opt_t h.u1) hy hq hs⟩
theorem pT2001 (x : LS) (h : StT cl l mv 2 false false true x) : Paid (cG cl l mv 30 (cutT cl l mv 2 false false true) x) := ⟨by rw [gT2001]; exact pick_ok h.ok.1 (i600 h.i h.ok.2.1) (opt_t h.u2) h.tt h.sums.symm fun y hy q hq s hs => leafA2 (c := true) h (opt_t h.u2) hy hq hs⟩
theorem pT2011 (x : LS) (h : StT cl l mv 2 false true true x) : Paid (cG cl l mv 30 (cutT cl l mv 2 false true true) x) := ⟨by rw [gT2011]; exact pick_ok h.ok.1 (i600 h.i h.ok.2.1) (opt_t h.u2) h.tt h.sums.symm fun y hy q hq s hs => leafA2 (c := true) h (opt_t h.u2) hy hq hs⟩
theorem pT2101 (x : LS) (h : StT cl l mv 2 true false true x) : Paid (cG cl l mv 30 (cutT cl l mv 2 true false true) x) := ⟨by rw [gT2101]; exact pick_ok h.ok.1 (i600 h.i h.ok.2.1) (opt_t h.u2) h.tt h.sums.symm fun y hy q hq s hs => leafA2 (c := true) h (opt_t h.u2) hy hq hs⟩
theorem pT2111 (x : LS) (h : StT cl l mv 2 true true true x) : Paid (cG cl l mv 30 (cutT cl l mv 2 true true true) x) := ⟨by rw [gT2111]; exact pick_ok h.ok.1 (i600 h.i h.ok.2.1) (opt_t h.u2) h.tt h.sums.symm fun y hy q hq s hs => leafA2 (c := true) h (opt_t h.u2) hy hq hs⟩
end
theorem togOk : CtrOk1 F.S 8 (mkCtr togD) :=
 mkCtrS_paid (fn := Try.f8) (body := b8) codOk noExt hookLow lGOk Try.func8 rfl rfl (by kernel_rfl) togD 3000 (fun (x : Int × List Int × List Int × Unit) => cutsG x.1 x.2.1 x.2.2.1) selG (show 3 ≤ Try.f8.ntmps by decide) (show Try.f8.ntmps ≤ 512 by decide) (by kernel_rfl) (fun _ _ => ⟨rfl,rfl⟩)
  (fun (x : Int × List Int × List Int × Unit) h => e_ok h) (fun (x : Int × List Int × List Int × Unit) h p hm s hI => by
   obtain ⟨cl,l,mv,u⟩ := x
   simp only [cutsG,List.mem_cons,List.not_mem_nil,or_false] at hm
   rcases hm with rfl | rfl | rfl | rfl | rfl | rfl | rfl | rfl | rfl | rfl | rfl | rfl | rfl | rfl | rfl | rfl | rfl | rfl | rfl | rfl | rfl | rfl | rfl | rfl | rfl | rfl | rfl | rfl
   ·exact pA000 s hI
   ·exact pA001 s hI
   ·exact pA010 s hI
   ·exact pA011 s hI
   ·exact pA100 s hI
   ·exact pA101 s hI
   ·exact pA110 s hI
   ·exact pA111 s hI
   ·exact pB000 s hI
   ·exact pB001 s hI
   ·exact pB010 s hI
   ·exact pB011 s hI
   ·exact pB100 s hI
   ·exact pB101 s hI
   ·exact pB110 s hI
   ·exact pB111 s hI
   ·exact pT0100 s hI
   ·exact pT0101 s hI
   ·exact pT0110 s hI
   ·exact pT0111 s hI
   ·exact pT1010 s hI
   ·exact pT1011 s hI
   ·exact pT1110 s hI
   ·exact pT1111 s hI
   ·exact pT2001 s hI
   ·exact pT2011 s hI
   ·exact pT2101 s hI
   ·exact pT2111 s hI
   )
end Go.Proofs.Ytmjjljngaefpaaa

/- What the seat's idealised runs stand on: hold.Text by its contract (a walk on the model), told calls by theirs; the table of tens out of the laid condition. -/
import Derived.Test.YtcholkmididfmaaGreatDoorRows
import Derived.WalkKit
import Derived.RowKitTokens
import Derived.LaidLaws
import Derived.LaidHandle
import Derived.KernelRfl
import Derived.Test.YtcholkmididfmaaGreatDoorLib2
import Derived.Test.YtcholkmididfmaaGreatDoorLib3
import Derived.Test.YtcholkmididfmaaGreatDoorPx
namespace Go.Proofs.YtcholkmididfmaaGreatDoor
open Go.RowKit Go.Am
set_option linter.unusedVariables false
def data0 : List Int := [0,1,28,2,29,14,24,3,30,22,20,15,25,17,4,8,31,27,13,23,21,19,16,7,26,12,18,6,11,5,10,9]
def data1 : List Int := [0,1,56,2,57,49,28,3,61,58,42,50,38,29,17,4,62,47,59,36,45,43,51,22,53,39,33,30,24,18,12,5,63,55,48,27,60,41,37,16,46,35,44,21,52,32,23,11,54,26,40,15,34,20,31,10,25,14,19,9,13,8,7,6]
def data2 : List Int := [1,10,100,1000,10000,100000,1000000,10000000,100000000,1000000000,10000000000,100000000000,1000000000000,10000000000000,100000000000000,1000000000000000,10000000000000000,100000000000000000,1000000000000000000,10000000000000000000]
def sentRows : List (String × Nat × List UInt8) := [("syncope/blame.errArg",0,[99,111,100,101,32,49]),("syncope/blame.errRange",1,[99,111,100,101,32,50]),("syncope/blame.errText",2,[99,111,100,101,32,51]),("syncope/blame.errLarge",3,[99,111,100,101,32,52]),("syncope/blame.errBlock",4,[99,111,100,101,32,53]),("syncope/blame.errLock",5,[99,111,100,101,32,54]),("syncope/blame.errMode",6,[99,111,100,101,32,55]),("syncope/blame.errOrder",7,[99,111,100,101,32,56]),("syncope/blame.errCond",8,[99,111,100,101,32,57]),("syncope/blame.errState",9,[99,111,100,101,32,49,48])]
def laidL : List (String × DataW Unit) := ("math/bits.deBruijn32tab",.agg (data0.map fun m => .lit (.int .u8 m))) :: ("math/bits.deBruijn64tab",.agg (data1.map fun m => .lit (.int .u8 m))) :: ("internal/strconv.uint64pow10",.agg (data2.map fun m => .lit (.int .u64 m))) :: ("errors.errorType",.iface "internal/reflectlite.rtype" (.agg [.ptr (.lit (.string [101,114,114,111,114]))])) :: sentRows.map fun r => (r.1,sentD "*errors.errorString" r.2.2)
def textG (hg : HGet) : List AVal → Option AVal
 | [.agg [lg,ws,os,st,qs]] =>
  (listsG hg lg).bind fun a => (intsG hg ws).bind fun b => (intsG hg os).bind fun c => (intsG hg st).bind fun d => (listsG hg qs).bind fun e =>
   bif outB ⟨a,b,c,d,e⟩ then some (.str (textR ⟨a,b,c,d,e⟩)) else none
 | _ => none
def textHook : Nat → List AVal → Heap → Option (AVal × Heap) := fun _ args H => (textG (fun b => H[b]?) args).map fun v => (v,H)
noncomputable def textT : Nat → List AVal → Hp → Option (AVal × Hp) := fun _ args h => (textG h.get args).map fun v => (v,h)
noncomputable def St (pol : FuncId → Pol) (l : Lits) : AStat where
 P := Tryz.prog
 glob := fun _ => none
 tab := [(11,(data2.map (Value.int .u64)).toArray)]
 pol := pol
 hook := fun f => if Nat.beq f 14 then some textHook else litHook l f
 meth := fun _ _ => none
 quiet := fun f => Nat.beq f 14
 quietOk := fun f h => ⟨textHook,by rw [h]; rfl,fun lo args H r H' e => by
  simp only [textHook,qd,qe] at e
  obtain ⟨_,_,_,rfl⟩ := e
  rfl⟩
noncomputable def HT0 : FuncId → Option HookT := fun f => if Nat.beq f 14 then some textT else none
theorem noNum_all : (Tryz.prog.funcs.toList.all fun fn => !(fn.name == "runtime.NumGoroutine")) = true := by kernel_rfl
theorem hookSt {pol : FuncId → Pol} {l : Lits} {f : FuncId} {hk : Nat → List AVal → Heap → Option (AVal × Heap)} (h : (St pol l).hook f = some hk) : (f = 14 ∧ hk = textHook) ∨ hk = litFun l f := by
 simp only [St] at h
 split at h
 ·rename_i e
  simp only [qa] at h
  exact .inl ⟨Nat.eq_of_beq_eq_true e,h.symm⟩
 ·exact .inr (litHook_is h)
theorem hookSim (pol : FuncId → Pol) : HookSim (St pol []) HT0 := by
 intro f
 simp only [St,HT0]
 cases hf : Nat.beq f 14 with
 | false =>
  simp only [Bool.false_eq_true,if_false,show litHook [] f = none from rfl]
 | true =>
  simp only [if_true]
  intro lo args h r h' ho e
  simp only [textT,qd,qe] at e
  obtain ⟨v,e1,rfl,rfl⟩ := e
  refine ⟨ho, ?_⟩
  simp only [textHook]
  rw [← getF_eq ho,e1]
  rfl
theorem tab_of {pol : FuncId → Pol} {l : Lits} {c : Cx} (hG : GlobOk (St pol l) c) : Tab c.w := by
 obtain ⟨_,t,fr,h⟩ := hG.t (11,(data2.map (Value.int .u64)).toArray) (List.mem_singleton.2 rfl)
 have hg : Tryz.prog.globalNamed "internal/strconv.uint64pow10" = some 11 := by kernel_rfl
 have e : data2 = Lib.pow10Tab := by kernel_rfl
 have h : c.w.heap[11]? = some (.cells (data2.map (Value.int .u64)).toArray t fr) := h
 show c.w.var? Tryz.prog "internal/strconv.uint64pow10" = _
 unfold World.var?
 rw [hg,Option.bind_some,h,← e]
theorem textBody : ∃ fn,Tryz.prog.funcs[14]? = some fn ∧ fn.body.isSome = true := ⟨_,Tryz.func14,by kernel_rfl⟩
theorem textHook_ok {pol : FuncId → Pol} {l : Lits} : ∀ lo args H r H',textHook lo args H = some (r,H') → ∀ c vs,Rel c H → GlobOk (St pol l) c → Vs c args vs →
 (∃ fn,Tryz.prog.funcs[14]? = some fn ∧ fn.body.isSome = true) ∧ Calls Tryz.prog 14 vs.toArray c.w (CallPost lo c H r H') := by
 intro lo args H r H' h c vs hR hG hv
 refine ⟨textBody, ?_⟩
 simp only [textHook,qd,qe] at h
 obtain ⟨v,h,rfl,rfl⟩ := h
 unfold textG at h
 split at h
 ·rename_i lg ws os st qs
  simp only [Option.bind_eq_some_iff] at h
  obtain ⟨a,h0,b,h1,d,h2,e,h3,g,h4,h⟩ := h
  cases hb : outB ⟨a,b,d,e,g⟩ with
  | false => rw [hb] at h; cases h
  | true =>
   rw [hb] at h
   simp only [cond_true,qa] at h
   subst h
   simp only [Vs,V] at hv
   obtain ⟨_,_,rfl,⟨us,rfl,v0,_,rfl,g0,v1,_,rfl,g1,v2,_,rfl,g2,v3,_,rfl,g3,v4,_,rfl,g4,rfl⟩,rfl⟩ := hv
   have hT := text_walk c.w v0 v1 v2 v3 v4 ⟨a,b,d,e,g⟩ (outB_is hb) (tab_of hG) (listsG_at hR h0 g0) (intsG_at hR h1 g1) (intsG_at hR h2 g2) (intsG_at hR h3 g3) (listsG_at hR h4 g4)
   refine hook_of hR (hT.mono ?_)
   rintro e w' ⟨rfl,hb⟩
   exact ⟨_,fun _ => False,rfl,hb,fun _ h => h.elim,by simp only [V]; exact ⟨_,rfl,rfl⟩⟩
 ·cases h
def LowHk (hk : Nat → List AVal → Heap → Option (AVal × Heap)) : Prop := ∀ lo args H r H',hk lo args H = some (r,H') → H.length ≤ H'.length ∧ ∀ b,b < lo → b < H.length → H'[b]? = H[b]?
theorem textHook_low : LowHk textHook := by
 intro lo args H r H' h
 simp only [textHook,qd,qe] at h
 obtain ⟨_,_,_,rfl⟩ := h
 exact ⟨qf _,fun _ _ _ => rfl⟩
def ToldC (l : Lits) : Prop := ∀ f a v,(f,a,v) ∈ l → baresA a = true ∧ v.bare = true ∧ (∃ fn,Tryz.prog.funcs[f]? = some fn ∧ fn.body.isSome = true) ∧
 ∀ c vs,Rel c [] → GlobOk (St (fun _ => .keep) []) c → Vs c a vs → ∃ H1,Calls Tryz.prog f vs.toArray c.w (CallPost 0 c [] v H1)
theorem toldNil : ToldC [] := fun _ _ _ h => by cases h
theorem stLow (pol : FuncId → Pol) (l : Lits) : ∀ f hk,(St pol l).hook f = some hk → LowHk hk := fun f hk h => by
 rcases hookSt h with ⟨rfl,rfl⟩ | rfl
 ·exact textHook_low
 ·exact litFun_low
theorem stOk (pol : FuncId → Pol) {l : Lits} (hl : ToldC l) : StatOk (St pol l) where
 noNum := fun f fn h => by
  have h1 := List.all_eq_true.1 noNum_all fn (qp (i := f) (by rw [Array.getElem?_toList]; exact h))
  simpa using h1
 meth := fun t name g h => by cases h
 hook := fun f hk h => by
  rcases hookSt h with ⟨rfl,rfl⟩ | rfl
  ·exact textHook_ok
  ·intro lo args H r H' e c vs hR hG hv
   obtain ⟨hm,rfl⟩ := litFun_is e
   obtain ⟨ha,hb,hf,h1⟩ := hl _ _ _ hm
   exact ⟨hf,lift_bare (S := St (fun _ => .keep) []) ha hb h1 lo c H' vs hR ⟨hG.v,hG.t⟩ hv⟩
 mixed := by kernel_rfl
 low := stLow pol l
theorem globOk (pol : FuncId → Pol) (l : Lits) {W : World} (hL : laidMetH Tryz.prog laidL W) : ∃ θ,GlobOk (St pol l) (cx0 W θ) := by
 have h' : laidMet Tryz.prog (laidL.filter fun x => x.2.handleName?.isNone) W ∧ handlesMet Tryz.prog (laidL.filter fun x => x.2.handleName?.isSome) W := hL
 have hf : (laidL.filter fun x => x.2.handleName?.isNone) = ("math/bits.deBruijn32tab",.agg (data0.map fun m => .lit (.int .u8 m))) :: ("math/bits.deBruijn64tab",.agg (data1.map fun m => .lit (.int .u8 m))) :: ("internal/strconv.uint64pow10",.agg (data2.map fun m => .lit (.int .u64 m))) :: (sentRows.map (fun r => (r.1,sentD "*errors.errorString" r.2.2)) ++ []) := by rfl
 rw [hf] at h'
 obtain ⟨⟨ps,h1,h2,h3⟩,_⟩ := h'
 obtain ⟨⟨p0,q0,l0,e0⟩,v0⟩ := laid_data (g := 12) (ns := data0) (k := .u8) h1 (by kernel_rfl) (by kernel_rfl) Tryz.underlying227 Tryz.underlying5 (by kernel_rfl) (by kernel_rfl) (by decide)
 obtain ⟨⟨p1,q1,l1,e1⟩,v1⟩ := laid_data (g := 13) (ns := data1) (k := .u8) l0 (by kernel_rfl) (by kernel_rfl) Tryz.underlying228 Tryz.underlying5 (by kernel_rfl) (by kernel_rfl) (by decide)
 have lt := laid_tab (g := 11) (ns := data2) (k := .u64) l1 (by kernel_rfl) (by kernel_rfl) Tryz.underlying207 Tryz.underlying134 (by kernel_rfl) (by kernel_rfl) (by decide)
 exact ⟨[],fun g cs h => (by cases h),fun p hp => by obtain rfl := List.mem_singleton.1 hp; exact lt []⟩
end Go.Proofs.YtcholkmididfmaaGreatDoor

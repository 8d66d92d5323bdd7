/- Library, part 2: AmExecSim, AmLow, AmDraw, AmDraw2, AmDraw3, AmDraw4, AmDraw5, AmRun, AmTop, AmMono, AmWp, AmLaid, AmData, AmTree, AmFast, AmLift, AmShelf. General texts of the author of this claim: an idealised machine and a symbolic one, both proved sound over the model. -/
import Derived.Orders
import Derived.ProofKit
import Derived.OpenShut
import Derived.LaidLaws
import Derived.LaidHandle
import Derived.Lib.SplitLaws
import Derived.Lib.AtoiErrMem
import Derived.Lib.ParseIntB
import Derived.Test.YtcholkmididfmaaGreatDoorLib1
set_option linter.unusedVariables false
set_option linter.unusedSimpArgs false
/- That the model's run keeps to the idealised one: operations one behind the other, calls, code. Generic: over any program. -/
namespace Go.Am
open Go.RowKit
def AExit.toExit : AExit → Exit
 | .normal => .normal
 | .exit id => .exit id
 | .ret => .ret
def CallPost (lo : Nat) (c : Cx) (H : Heap) (r : AVal) (H' : Heap) (e : Ending) (w' : World) : Prop :=
 ∃ v c',e = .returned v ∧ c'.w = w' ∧ Rel c' H' ∧ Tr c H c' H' ∧ Low lo c H c' H' ∧ V c' r v
def CallOk (S : AStat) (call : CallF) : Prop :=
 ∀ lo f args H r H',call lo f args H = some (r,H') → ∀ c vs,Rel c H → GlobOk S c → Vs c args vs →
  (∃ fn,S.P.funcs[f]? = some fn ∧ fn.body.isSome = true) ∧ Calls S.P f vs.toArray c.w (CallPost lo c H r H')
structure StatOk (S : AStat) : Prop where
 noNum : ∀ (f : FuncId) (fn : Func),S.P.funcs[f]? = some fn → (fn.name == "runtime.NumGoroutine") = false
 meth : ∀ t name g,S.meth t name = some g → ∀ a w,(method (S.P.types.size + Made.depth) t (.pointer a) name).run S.P w = .ok (g,.pointer a) w
 hook : ∀ f hk,S.hook f = some hk → ∀ lo args H r H',hk lo args H = some (r,H') → ∀ c vs,Rel c H → GlobOk S c → Vs c args vs →
  (∃ fn,S.P.funcs[f]? = some fn ∧ fn.body.isSome = true) ∧ Calls S.P f vs.toArray c.w (CallPost lo c H r H')
 mixed : S.P.follows .mixedOrders = true
 low : ∀ f hk,S.hook f = some hk → ∀ lo args H r H',hk lo args H = some (r,H') → H.length ≤ H'.length ∧ ∀ b,b < lo → b < H.length → H'[b]? = H[b]?
def Post (lo : Nat) (c : Cx) (H : Heap) (x : AExit) (ρ' : List AVal) (H' : Heap) (e : Exit) (a' : Act) (w' : World) : Prop :=
 e = x.toExit ∧ a'.defers = [] ∧ ∃ c',c'.w = w' ∧ Rel c' H' ∧ Tr c H c' H' ∧ Low lo c H c' H' ∧ Vs c' ρ' a'.tmps.toList
theorem Post.trans {lo : Nat} {c0 c : Cx} {H0 H : Heap} (hT : Tr c0 H0 c H) (hL : Low lo c0 H0 c H) {x : AExit} {ρ' : List AVal} {H' : Heap} {e : Exit} {a' : Act} {w' : World} (h : Post lo c H x ρ' H' e a' w') :
 Post lo c0 H0 x ρ' H' e a' w' := by
 obtain ⟨h1,h2,c',h3,h4,h5,h6,h7⟩ := h
 exact ⟨h1,h2,c',h3,h4,hT.trans h5,hL.trans hT.ext h6,h7⟩
def ExecOk (S : AStat) (K : Nat) (rec : ExecF) : Prop :=
 ∀ lo code ρ H x ρ' H',rec lo code ρ H = some (x,ρ',H') → ∀ c a,Rel c H → GlobOk S c → Vs c ρ a.tmps.toList → a.defers = [] →
  code.wp S.P (Post lo c H x ρ' H') a c.w ∧ ∀ b,code = .loop b → Code.rounds S.P b (Post lo c H x ρ' H') K a c.w
theorem not_bool {c : Cx} {x : AVal} {v : Value} (h : V c x v) (h1 : ∀ b,x ≠ .bool b) (h2 : x ≠ .junk) : ∀ b,v ≠ .bool b := by
 intro b e
 subst e
 cases x <;> simp only [V] at h <;> simp_all
theorem guardA_sim {c : Cx} {ops : Array Oper} {ρ : List AVal} {a : Act} {o : Oper} {b : Bool} (h : guardA ops.toList ρ o = some b) (hρ : Vs c ρ a.tmps.toList) : Region.wanted o (yielded ops a.tmps) = b := by
 unfold guardA at h
 unfold Region.wanted
 split at h
 ·rename_i hg
  simp only [qa] at h
  rw [hg]
  exact h
 ·rename_i j want hg
  rw [hg]
  simp only
  have hops : ops.toList[j]? = ops[j]? := by simp
  rw [hops] at h
  split at h
  ·rename_i hd
   simp only [qa] at h
   subst h
   simp [yielded,hd]
  ·rename_i d hd
   have hl := Vs_length hρ
   split at h
   ·rename_i hn
    simp only [qa] at h
    subst h
    have : a.tmps[d]? = none := by
     rw [List.getElem?_eq_none_iff] at hn
     rw [Array.getElem?_eq_none_iff]
     simp only [Array.length_toList] at hl
     omega
    simp [yielded,hd,this]
   ·rename_i bv hn
    simp only [qa] at h
    subst h
    obtain ⟨v,h1,h2⟩ := Vs_get hρ hn
    simp only [V] at h2
    subst h2
    have : a.tmps[d]? = some (.bool bv) := by simpa using h1
    simp [yielded,hd,this]
   ·cases h
   ·rename_i av hnb hnj hn
    simp only [qa] at h
    subst h
    obtain ⟨v,h1,h2⟩ := Vs_get hρ hn
    have hv := not_bool h2 (fun b e => hnb b e) (fun e => hnj e)
    have : a.tmps[d]? = some v := by simpa using h1
    have hy : yielded ops a.tmps j = none := by
     simp only [yielded,hd,Option.bind_some,this]
     cases v <;> first | rfl | exact absurd rfl (hv _)
    rw [hy]
    rfl
theorem putA_Vs {c : Cx} {ρ : List AVal} {a : Act} (hρ : Vs c ρ a.tmps.toList) (dst : Option Tmp) {v : AVal} {u : Value} (h : V c v u) : Vs c (putA ρ dst v) (a.put dst u).tmps.toList := by
 cases dst with
 | none => exact hρ
 | some d =>
  simp only [putA,Act.put,Array.toList_setIfInBounds]
  exact Vs_set hρ h
theorem undef_V (c : Cx) : V c undefA undef := by
 simp only [undefA,V]
 exact ⟨[],rfl,by simp [Vs]⟩
theorem put_defers (a : Act) (dst : Option Tmp) (v : Value) : (a.put dst v).defers = a.defers := by cases dst <;> rfl
theorem opA_sim {S : AStat} (hS : StatOk S) {call : CallF} (hC : CallOk S call) {lo : Nat} {c : Cx} {H : Heap} {ρ : List AVal} {a : Act} (hR : Rel c H) (hG : GlobOk S c) (o : Oper) (hev : EvOn S c ρ a o.op.operands) {v : AVal} {H' : Heap}
 (h : opA S call lo ρ H o = some (v,H')) {K : Act → World → Prop} {Q : Exit → Act → World → Prop}
 (hK : ∀ c' u,Rel c' H' → Tr c H c' H' → Low lo c H c' H' → V c' v u → K (a.put o.dst u) c'.w) : o.wp S.P a c.w K Q := by
 have does : Does S lo c H a o v H' → o.wp S.P a c.w K Q := by
  rintro ⟨c',u,h1,h2,h3,h4,h5 | ⟨h5,rfl⟩⟩
  ·unfold Oper.wp
   rw [h5]
   exact hK c' u h1 h2 h3 h4
  ·unfold Oper.wp
   rw [h5]
   exact hK c' _ h1 h2 h3 h4
 have enter : ∀ (g : FuncId) (args : List AVal) (vs : List Value),call lo g args H = some (v,H') → Vs c args vs → ((execOp a.eval o).run S.P c.w = ((callFunc g vs.toArray).run S.P c.w)) → o.wp S.P a c.w K Q := by
  intro g args vs hc hvs hrun
  obtain ⟨⟨fn,hf,hb⟩,hcalls⟩ := hC lo g args H v H' hc c vs hR hG hvs
  have hcf : (callFunc g vs.toArray).run S.P c.w = .ok (.enter g vs.toArray) c.w := by
   have hb' : fn.body.isNone = false := by cases hfb : fn.body <;> simp_all
   have hn : ¬ ((fn.name == "runtime.NumGoroutine") = true) := by rw [hS.noNum g fn hf]; simp
   have hnb : ¬ (fn.body.isNone = true) := by rw [hb']; simp
   simp only [callFunc,Sem.run_bind,run_program,Result.andThen_ok,hf]
   rw [if_neg hn,if_neg hnb]
   rfl
  unfold Oper.wp
  rw [hrun,hcf]
  refine hcalls.mono ?_
  rintro e w' ⟨u,c',rfl,rfl,h1,h2,h3,h4⟩
  exact hK c' u h1 h2 h3 h4
 unfold opA at h
 split at h
 ·rename_i r hq
  simp only [qa,qe] at h
  obtain ⟨rfl,rfl⟩ := h
  obtain ⟨u,h1,h2⟩ := quietA_sim hR o hev hq
  exact does ⟨c,u,hR,Tr.refl _ _,Low.refl _ _ _,h2,.inl h1⟩
 ·split at h
  ·rename_i blk mk hn
   simp only [qa,qe] at h
   obtain ⟨rfl,rfl⟩ := h
   obtain ⟨obj,u,h1,h2⟩ := (newA_sim o hev hn).run
   have hadd := hR.add (H' := H ++ [some blk]) H.length obj blk (hR.fresh _ (qf _)) (by simp) (by simp) (by
    intro x y hxy
    rcases qm x H.length with h1 | h1
    ·rw [qg h1] at hxy
     exact .inr ⟨by omega,hxy⟩
    ·rw [qk h1] at hxy
     rcases Nat.eq_or_lt_of_le h1 with h2 | h2
     ·rw [← h2] at hxy
      simp at hxy
      exact .inl ⟨h2.symm,hxy.symm⟩
     ·rw [qr (by simp; omega)] at hxy
      cases hxy) (fun hE => (h2 _ hE).1)
   refine does ⟨_,u,hadd.1,hadd.2, ?_,(h2 _ hadd.2.ext).2,.inl h1⟩
   refine hR.add_low lo _ _ (qf _) (by simp) fun x y hxy => ?_
   rw [qg]
   ·exact hxy
   ·rcases qm x H.length with h | h
    ·exact h
    ·rw [qr h] at hxy; cases hxy
  ·unfold effA at h
   split at h
   ·rename_i t x y ho
    rw [qd] at h
    obtain ⟨H2,h1,h2⟩ := h
    simp only [qe] at h2
    obtain ⟨rfl,rfl⟩ := h2
    exact does (storeA_sim hR o hev ho h1)
   ·rename_i t m k y ho
    rw [qd] at h
    obtain ⟨H2,h1,h2⟩ := h
    simp only [qe] at h2
    obtain ⟨rfl,rfl⟩ := h2
    obtain ⟨c',g1,g2,g3,g4⟩ := mapUpdateA_sim hR h1 (hev m (by simp [ho,Op.operands])) (hev k (by simp [ho,Op.operands])) (hev y (by simp [ho,Op.operands]))
    refine does ⟨c',undef,g1,g2,g3,undef_V c',.inr ⟨?_,rfl⟩⟩
    obtain ⟨dst,op,type,pos,after,guard⟩ := o
    simp only at ho
    subst ho
    simp [execOp,g4]
   ·rename_i t m k y ho
    rw [qd] at h
    obtain ⟨H2,h1,h2⟩ := h
    simp only [qe] at h2
    obtain ⟨rfl,rfl⟩ := h2
    obtain ⟨c',g1,g2,g3,g4⟩ := mapUpdateA_sim hR h1 (hev m (by simp [ho,Op.operands])) (hev k (by simp [ho,Op.operands])) (hev y (by simp [ho,Op.operands]))
    refine does ⟨c',undef,g1,g2,g3,undef_V c',.inr ⟨?_,rfl⟩⟩
    obtain ⟨dst,op,type,pos,after,guard⟩ := o
    simp only at ho
    subst ho
    simp [execOp,g4]
   ·rename_i x isString ho
    obtain ⟨c',u,g1,g2,g3,g4,g5⟩ := nextA_sim (P := S.P) (t := o.type) hR h (hev x (by simp [ho,Op.operands]))
    refine does ⟨c',u,g1,g2,g3,g4,.inl ?_⟩
    obtain ⟨dst,op,type,pos,after,guard⟩ := o
    simp only at ho
    subst ho
    simp only [execOp] at g5 ⊢
    simp [g5]
   ·rename_i t x ho
    obtain ⟨c',u,g1,g2,g3,g4,g5⟩ := rangeMA_sim (P := S.P) (lo := lo) hR h (hev x (by simp [ho,Op.operands]))
    refine does ⟨c',u,g1,g2,g3,g4,.inl ?_⟩
    obtain ⟨dst,op,type,pos,after,guard⟩ := o
    simp only at ho
    subst ho
    simp only [execOp] at g5 ⊢
    simp [g5]
   ·rename_i x ho
    rw [qd] at h
    obtain ⟨r,h1,h2⟩ := h
    simp only [qe] at h2
    obtain ⟨rfl,rfl⟩ := h2
    obtain ⟨u,g4,g5⟩ := entryA_sim (P := S.P) hR h1 (hev x (by simp [ho,Op.operands]))
    refine does ⟨c,u,hR,Tr.refl _ _,Low.refl _ _ _,g4,.inl ?_⟩
    obtain ⟨dst,op,type,pos,after,guard⟩ := o
    simp only at ho
    subst ho
    simp only [execOp] at g5 ⊢
    simp [g5]
   ·rename_i s d x ho
    obtain ⟨c',u,g1,g2,g3,g4,g5⟩ := bytesA_sim (P := S.P) (lo := lo) hR h (hev x (by simp [ho,Op.operands]))
    refine does ⟨c',u,g1,g2,g3,g4,.inl ?_⟩
    obtain ⟨dst,op,type,pos,after,guard⟩ := o
    simp only at ho
    subst ho
    simp only [execOp] at g5 ⊢
    simp [g5]
   ·rename_i args ts ho
    split at h
    ·rename_i s x t u e1 e2
     have hl := Vs_mapO (c := c) (S := S) (ρ := ρ) (a := a) args.toList (fun x hx => hev x (by simp [ho,Op.operands,Call.operands]; first | exact .inr (by simpa using hx) | simpa using hx))
     rw [e1] at hl
     simp only [Vs] at hl
     obtain ⟨sv,_,e3,hsv,xv,_,rfl,hxv,rfl⟩ := hl
     obtain ⟨c',vv,h1,h2,h3,h4,h5⟩ := appendA_sim (ty := o.type) hR h hsv hxv
     refine does ⟨c',vv,h1,h2,h3,h4,.inl ?_⟩
     have e4 : args.map a.eval = #[sv,xv] := by apply Array.ext'; simpa using e3
     have e5 : ts = #[t,u] := by apply Array.ext'; simpa using e2
     obtain ⟨dst,op,type,pos,after,guard⟩ := o
     simp only at ho
     subst ho
     simp only [execOp,Sem.run_bind,resolve,Sem.run_pure,Result.andThen_ok,invoke,builtin,e4,e5] at h5 ⊢
     simp [h5]
    ·cases h
   ·rename_i f args ts ho
    split at h
    ·rename_i g first captured e1
     split at h
     ·rename_i r hext
      simp only [qa,qe] at h
      obtain ⟨rfl,rfl⟩ := h
      obtain ⟨u,h1,h2⟩ := extCall_sim o hev ho e1 hext
      exact does ⟨c,u,hR,Tr.refl _ _,Low.refl _ _ _,h2,.inl h1⟩
     have hf := hev f (by simp [ho,Op.operands,Call.operands])
     rw [e1] at hf
     simp only [V] at hf
     obtain ⟨vs,us,e2,h1,h2⟩ := hf
     have hl := Vs_mapO (c := c) (S := S) (ρ := ρ) (a := a) args.toList (fun x hx => hev x (by simp [ho,Op.operands,Call.operands]; first | exact .inr (by simpa using hx) | simpa using hx))
     refine enter g _ (vs ++ args.toList.map a.eval ++ us) h (Vs_append (Vs_append h1 hl) h2) ?_
     obtain ⟨dst,op,type,pos,after,guard⟩ := o
     simp only at ho
     subst ho
     simp only [execOp,Sem.run_bind,resolve,e2,Deferred.ofValue,Sem.run_pure,Result.andThen_ok,invoke]
     congr 2
     apply Array.ext'
     simp
    ·cases h
   ·rename_i rcv name args ts ho
    split at h
    ·rename_i t v0 e1
     have hf := hev rcv (by simp [ho,Op.operands,Call.operands])
     rw [e1] at hf
     simp only [V] at hf
     obtain ⟨u,e2,hu⟩ := hf
     split at h
     ·rename_i g nb hm hn
      have hl := Vs_mapO (c := c) (S := S) (ρ := ρ) (a := a) args.toList (fun x hx => hev x (by simp [ho,Op.operands,Call.operands]; first | exact .inr (by simpa using hx) | simpa using hx))
      have hp := nk_sim hn hu
      have hpu : ∃ q,u = .pointer q := by
       cases u <;> simp [vnk] at hp
       exact ⟨_,rfl⟩
      obtain ⟨q,rfl⟩ := hpu
      refine enter g _ (.pointer q :: args.toList.map a.eval) h (by simp only [Vs]; exact ⟨_,_,rfl,hu,hl⟩) ?_
      obtain ⟨dst,op,type,pos,after,guard⟩ := o
      simp only at ho
      subst ho
      have e3 : #[Value.iface t (.pointer q)] ++ args.map a.eval = (Value.iface t (.pointer q) :: args.toList.map a.eval).toArray := by
       apply Array.ext'; simp
      have e4 : ((Value.iface t (.pointer q) :: args.toList.map a.eval).toArray.extract 1 (Value.iface t (.pointer q) :: args.toList.map a.eval).toArray.size) = (args.toList.map a.eval).toArray := by
       apply Array.ext'
       rw [Array.toList_extract]
       simp only [List.extract_eq_take_drop,List.drop_succ_cons,List.drop_zero,List.size_toArray,qn,List.length_map]
       rw [List.take_of_length_le (by simp)]
      simp only [execOp,Sem.run_bind,resolve,e2,Sem.run_pure,Result.andThen_ok,invoke,e3]
      simp only [List.getElem?_toArray,List.getElem?_cons_zero,callMethod,Sem.run_bind,run_program,Result.andThen_ok,hS.meth t name g hm q,e4]
      congr 2
      apply Array.ext'
      simp
     ·split at h
      ·rename_i g v1 hm
       rw [qd] at h
       obtain ⟨r,h,h2⟩ := h
       simp only [qe] at h2
       obtain ⟨rfl,rfl⟩ := h2
       obtain ⟨x,h1,h2⟩ := extInv_sim o hev ho e1 hm h
       exact does ⟨c,x,hR,Tr.refl _ _,Low.refl _ _ _,h2,.inl h1⟩
      ·cases h
    ·cases h
   ·cases h
end Go.Am

/- What lies below the mark stays as it is in an idealised run. Generic: over any program. -/
namespace Go.Am
def LowH (lo : Nat) (H H' : Heap) : Prop := H.length ≤ H'.length ∧ ∀ b,b < lo → b < H.length → H'[b]? = H[b]?
theorem LowH.refl (lo : Nat) (H : Heap) : LowH lo H H := ⟨qf _,fun _ _ _ => rfl⟩
theorem LowH.trans {lo : Nat} {H H1 H2 : Heap} (h : LowH lo H H1) (k : LowH lo H1 H2) : LowH lo H H2 :=
 ⟨Nat.le_trans h.1 k.1,fun b h1 h2 => (k.2 b h1 (qu h2 h.1)).trans (h.2 b h1 h2)⟩
theorem LowH.set {lo : Nat} {H : Heap} {b : Nat} {x : Option ABlk} (h : lo ≤ b) : LowH lo H (H.set b x) :=
 ⟨by simp,fun i h1 _ => by rw [qh,if_neg (by omega)]⟩
theorem LowH.append {lo : Nat} (H k : Heap) : LowH lo H (H ++ k) := ⟨by simp,fun b _ h => qg h⟩
def CallLow (call : CallF) : Prop := ∀ lo f args H r H',call lo f args H = some (r,H') → LowH lo H H'
def RecLow (rec : ExecF) : Prop := ∀ lo c ρ H x ρ' H',rec lo c ρ H = some (x,ρ',H') → LowH lo H H'
theorem mapUpdateA_low {P : Program} {lo : Nat} {t : TypeId} {H H' : Heap} {m k y : AVal} (h : mapUpdateA P lo t H m k y = some H') : LowH lo H H' := by
 unfold mapUpdateA at h
 (repeat' split at h) <;> first
  | (cases h; done)
  | (simp only [qa] at h
     subst h
     exact LowH.set (by assumption))
theorem nextA_low {lo : Nat} {H H' : Heap} {x r : AVal} {isString : Bool} (h : nextA lo H x isString = some (r,H')) : LowH lo H H' := by
 unfold nextA at h
 (repeat' split at h) <;> first
  | (cases h; done)
  | (simp only [qa,qe] at h
     obtain ⟨_,rfl⟩ := h
     first
      | exact LowH.refl _ _
      | exact LowH.set (by assumption)
      | exact LowH.set (And.left (by assumption)))
theorem storeA_low {P : Program} {lo : Nat} {t : TypeId} {H H' : Heap} {x v : AVal} (h : storeA P lo t H x v = some H') : LowH lo H H' := by
 unfold storeA at h
 split at h
 ·split at h
  ·split at h
   ·rename_i hc
    simp only [qa] at h
    subst h
    exact LowH.set hc.1
   ·cases h
  ·cases h
 ·cases h
theorem appendA_low {P : Program} {lo : Nat} {t u : TypeId} {H H' : Heap} {s x v : AVal} (h : appendA P lo t u H s x = some (v,H')) : LowH lo H H' := by
 unfold appendA at h
 (repeat' split at h) <;> first
  | (cases h; done)
  | (simp only at h; cases h; done)
  | (simp only at h
     (repeat' split at h) <;> first
      | (cases h; done)
      | (simp only [qa,qe] at h
         obtain ⟨_,rfl⟩ := h
         first
          | exact LowH.refl _ _
          | exact LowH.append _ _
          | exact LowH.set (And.left (by assumption))
          | exact LowH.trans (LowH.set (And.left (by assumption))) (LowH.append _ _)))
theorem effA_low {S : AStat} {call : CallF} (hC : CallLow call) {lo : Nat} {ρ : List AVal} {H H' : Heap} {op : Op} {v : AVal} (h : effA S call lo ρ H op = some (v,H')) : LowH lo H H' := by
 unfold effA at h
 split at h
 ·rw [qd] at h
  obtain ⟨H2,h1,h2⟩ := h
  simp only [qe] at h2
  obtain ⟨_,rfl⟩ := h2
  exact storeA_low h1
 ·rw [qd] at h
  obtain ⟨H2,h1,h2⟩ := h
  simp only [qe] at h2
  obtain ⟨_,rfl⟩ := h2
  exact mapUpdateA_low h1
 ·rw [qd] at h
  obtain ⟨H2,h1,h2⟩ := h
  simp only [qe] at h2
  obtain ⟨_,rfl⟩ := h2
  exact mapUpdateA_low h1
 ·exact nextA_low h
 ·unfold rangeMA at h
  (repeat' split at h) <;> first
   | (cases h; done)
   | (simp only [qa,qe] at h
      obtain ⟨_,rfl⟩ := h
      exact LowH.append _ _)
 ·rw [qd] at h
  obtain ⟨_,_,h2⟩ := h
  simp only [qe] at h2
  obtain ⟨_,rfl⟩ := h2
  exact LowH.refl _ _
 ·unfold bytesA at h
  split at h
  ·split at h
   ·simp only [qa,qe] at h
    obtain ⟨_,rfl⟩ := h
    exact LowH.append _ _
   ·cases h
  ·cases h
 ·split at h
  ·exact appendA_low h
  ·cases h
 ·split at h
  ·split at h
   ·simp only [qa,qe] at h
    obtain ⟨_,rfl⟩ := h
    exact LowH.refl _ _
   ·exact hC _ _ _ _ _ _ h
  ·cases h
 ·split at h
  ·split at h
   ·exact hC _ _ _ _ _ _ h
   ·split at h
    ·rw [qd] at h
     obtain ⟨_,_,h2⟩ := h
     simp only [qe] at h2
     obtain ⟨_,rfl⟩ := h2
     exact LowH.refl _ _
    ·cases h
  ·cases h
 ·cases h
theorem opA_low {S : AStat} {call : CallF} (hC : CallLow call) {lo : Nat} {ρ : List AVal} {H H' : Heap} {o : Oper} {v : AVal} (h : opA S call lo ρ H o = some (v,H')) : LowH lo H H' := by
 unfold opA at h
 split at h
 ·simp only [qa,qe] at h
  obtain ⟨_,rfl⟩ := h
  exact LowH.refl _ _
 ·split at h
  ·simp only [qa,qe] at h
   obtain ⟨_,rfl⟩ := h
   exact LowH.append _ _
  ·exact effA_low hC h
theorem opsA_low {S : AStat} {call : CallF} (hC : CallLow call) {lo : Nat} {ops : List Oper} : ∀ {l : List Oper} {ρ ρ' : List AVal} {H H' : Heap},opsA S call lo ops l ρ H = some (ρ',H') → LowH lo H H'
 | [],ρ,ρ',H,H',h => by
  simp only [opsA,qa,qe] at h
  obtain ⟨_,rfl⟩ := h
  exact LowH.refl _ _
 | o :: l,ρ,ρ',H,H',h => by
  simp only [opsA] at h
  split at h
  ·cases h
  ·exact opsA_low hC h
  ·split at h
   ·cases h
   ·rename_i h1
    exact (opA_low hC h1).trans (opsA_low hC h)
theorem hide_low (lo : Nat) : ∀ (bs : List Nat) (H : Heap),(∀ b ∈ bs,lo ≤ b) → LowH lo H (hide H bs)
 | [],H,_ => LowH.refl _ _
 | b :: bs,H,h => (LowH.set (h b (by simp))).trans (hide_low lo bs _ fun x hx => h x (by simp [hx]))
theorem unhide_low (lo : Nat) (H0 : Heap) : ∀ (bs : List Nat) (H : Heap),(∀ b ∈ bs,lo ≤ b) → LowH lo H (unhide H0 H bs)
 | [],H,_ => LowH.refl _ _
 | b :: bs,H,h => (LowH.set (h b (by simp))).trans (unhide_low lo H0 bs _ fun x hx => h x (by simp [hx]))
theorem hidden_le {ops : Array Oper} {B : List Nat} {n0 k b : Nat} (h : b ∈ hidden ops B n0 k) : n0 ≤ b := by
 simp only [hidden,List.mem_map] at h
 obtain ⟨j,_,rfl⟩ := h
 omega
theorem drawGo_low {S : AStat} {call : CallF} (hC : CallLow call) {lo n0 : Nat} (hlo : lo ≤ n0) {ops : Array Oper} {B : List Nat} : ∀ {l : List Oper} {k : Nat} {ρ : List AVal} {H : Heap} {r : DrawOut},drawGo S call lo n0 ops B l k ρ H = some r → LowH lo H r.H
 | [],k,ρ,H,r,h => by
  simp only [drawGo,qa] at h
  subst h
  exact LowH.refl _ _
 | o :: l,k,ρ,H,r,h => by
  have hh : ∀ b ∈ hidden ops B n0 k,lo ≤ b := fun b hb => Nat.le_trans hlo (hidden_le hb)
  simp only [drawGo] at h
  split at h
  ·cases h
  ·exact drawGo_low hC hlo h
  ·split at h
   ·split at h
    ·cases h
    ·split at h
     ·exact (LowH.set (by omega)).trans (drawGo_low hC hlo h)
     ·cases h
   ·split at h
    ·split at h
     ·cases h
     ·rename_i v H1 h1
      split at h
      ·split at h
       ·cases h
       ·rename_i r1 h2
        simp only [qa] at h
        subst h
        have h3 : LowH lo _ r1.H := drawGo_low hC hlo h2
        exact (((hide_low lo _ H hh).trans (effA_low hC h1)).trans (unhide_low lo H _ H1 hh)).trans h3
      ·cases h
    ·split at h
     ·cases h
     ·split at h
      ·cases h
      ·rename_i r1 h2
       split at h <;>
       ·simp only [qa] at h
        subst h
        have h3 : LowH lo _ r1.H := drawGo_low hC hlo h2
        exact h3
theorem drawA_low {S : AStat} {call : CallF} (hC : CallLow call) {lo : Nat} {ops : Array Oper} {ρ ρ' : List AVal} {H H' : Heap} (h : drawA S call lo ops ρ H = some (ρ',H')) : LowH lo H H' := by
 unfold drawA at h
 simp only at h
 split at h
 ·rename_i hc
  simp only [qj,decide_eq_true_eq] at hc
  split at h
  ·cases h
  ·rename_i r hr
   split at h
   ·simp only [qa,qe] at h
    obtain ⟨_,rfl⟩ := h
    have := drawGo_low hC hc.2 hr
    split at this
    ·exact (LowH.append _ _).trans this
    ·exact this
   ·cases h
 ·cases h
def HookLow (S : AStat) : Prop := ∀ f hk,S.hook f = some hk → ∀ lo args H r H',hk lo args H = some (r,H') → LowH lo H H'
theorem callA_low {S : AStat} (hS : HookLow S) {rec : ExecF} (hR : RecLow rec) : CallLow (callA S rec) := by
 intro lo f args H r H' h
 unfold callA at h
 split at h
 ·rename_i hk hhk
  exact hS f hk hhk _ _ _ _ _ h
 ·split at h
  ·cases h
  ·split at h
   ·cases h
   ·split at h
    ·cases h
    ·cases h
    ·rename_i h1
     split at h
     ·cases h
     ·unfold finish at h
      split at h
      ·rename_i hp
       simp only [qa,qe] at h
       obtain ⟨_,rfl⟩ := h
       have := hR _ _ _ _ _ _ _ h1
       rw [hp] at this
       exact this
      ·rw [qd] at h
       obtain ⟨_,_,h2⟩ := h
       simp only [qe] at h2
       obtain ⟨_,rfl⟩ := h2
       exact LowH.refl _ _
      ·rename_i hp
       simp only [qa,qe] at h
       obtain ⟨_,rfl⟩ := h
       have := hR _ _ _ _ _ _ _ h1
       rw [hp] at this
       exact ⟨this.1,fun b hb hb2 => this.2 b (by simp only [Pol.lo]; omega) hb2⟩
theorem callA_fresh {S : AStat} {rec : ExecF} (hR : RecLow rec) {lo : Nat} {f : FuncId} {args : List AVal} {H H' : Heap} {r : AVal} (hh : (S.hook f).isNone = true) (hp : S.pol f = .fresh) (h : callA S rec lo f args H = some (r,H')) :
 H.length ≤ H'.length ∧ ∀ b,b < H.length → H'[b]? = H[b]? := by
 unfold callA at h
 split at h
 ·rename_i hk hhk
  rw [hhk] at hh
  cases hh
 ·split at h
  ·cases h
  ·split at h
   ·cases h
   ·split at h
    ·cases h
    ·cases h
    ·rename_i h1
     split at h
     ·cases h
     ·rw [hp] at h h1
      simp only [finish,qa,qe] at h
      obtain ⟨_,rfl⟩ := h
      have := hR _ _ _ _ _ _ _ h1
      exact ⟨this.1,fun b hb => this.2 b (by simp only [Pol.lo]; omega) hb⟩
theorem stepA_low {S : AStat} (hS : HookLow S) {rec : ExecF} (hR : RecLow rec) : RecLow (stepA S rec) := by
 intro lo c ρ H x ρ' H' h
 unfold stepA at h
 split at h
 ·simp only [qa,qe] at h; obtain ⟨_,_,rfl⟩ := h; exact LowH.refl _ _
 ·simp only [qa,qe] at h; obtain ⟨_,_,rfl⟩ := h; exact LowH.refl _ _
 ·simp only [qa,qe] at h; obtain ⟨_,_,rfl⟩ := h; exact LowH.refl _ _
 ·simp only [qa,qe] at h; obtain ⟨_,_,rfl⟩ := h; exact LowH.refl _ _
 ·split at h
  ·rename_i h1
   exact (hR _ _ _ _ _ _ _ h1).trans (hR _ _ _ _ _ _ _ h)
  ·exact hR _ _ _ _ _ _ _ h
 ·split at h
  ·exact hR _ _ _ _ _ _ _ h
  ·exact hR _ _ _ _ _ _ _ h
  ·cases h
 ·split at h
  ·rename_i h1
   split at h <;>
   ·simp only [qa,qe] at h
    obtain ⟨_,_,rfl⟩ := h
    exact hR _ _ _ _ _ _ _ h1
  ·exact hR _ _ _ _ _ _ _ h
 ·split at h
  ·rename_i h1
   exact (hR _ _ _ _ _ _ _ h1).trans (hR _ _ _ _ _ _ _ h)
  ·exact hR _ _ _ _ _ _ _ h
 ·split at h
  ·rw [qd] at h
   obtain ⟨⟨a,b⟩,h1,h2⟩ := h
   simp only [qe] at h2
   obtain ⟨_,_,rfl⟩ := h2
   exact drawA_low (callA_low hS hR) h1
  ·rw [qd] at h
   obtain ⟨⟨a,b⟩,h1,h2⟩ := h
   simp only [qe] at h2
   obtain ⟨_,_,rfl⟩ := h2
   exact opsA_low (callA_low hS hR) h1
 ·cases h
theorem execA_low {S : AStat} (hS : HookLow S) : ∀ n,RecLow (execA S n)
 | 0 => fun _ _ _ _ _ _ _ h => by cases h
 | n + 1 => stepA_low hS (execA_low hS n)
end Go.Am

/- That a region whose order is open keeps to the idealised one, in whatever order. Generic: over any program. -/
namespace Go.Am
open Go.RowKit
def newAt (ops : Array Oper) (i : Nat) : Bool := match ops[i]? with | some o => isNewB o.op | none => false
def effAt (ops : Array Oper) (i : Nat) : Bool := match ops[i]? with | some o => isEffB o.op | none => false
def dstAt (ops : Array Oper) (i : Nat) : Option Tmp := (ops[i]?).bind (·.dst)
theorem hide_get : ∀ (bs : List Nat) (H : Heap) (b : Nat),(hide H bs)[b]? = if b ∈ bs ∧ b < H.length then some none else H[b]?
 | [],H,b => by simp [hide]
 | x :: bs,H,b => by
  rw [hide,hide_get bs,qz,qh]
  by_cases h1 : b ∈ bs <;> by_cases h2 : b < H.length <;> by_cases h3 : x = b <;> simp_all
  all_goals (intro e; exact absurd e.symm h3)
theorem hide_length : ∀ (bs : List Nat) (H : Heap),(hide H bs).length = H.length
 | [],H => rfl
 | x :: bs,H => by rw [hide,hide_length bs]; simp
theorem unhide_length : ∀ (bs : List Nat) (H0 H : Heap),(unhide H0 H bs).length = H.length
 | [],_,H => rfl
 | x :: bs,H0,H => by rw [unhide,unhide_length bs]; simp
theorem unhide_get : ∀ (bs : List Nat) (H0 H : Heap) (b : Nat),(unhide H0 H bs)[b]? = if b ∈ bs ∧ b < H.length then some (H0.getD b none) else H[b]?
 | [],_,H,b => by simp [unhide]
 | x :: bs,H0,H,b => by
  rw [unhide,unhide_get bs,qz,qh]
  by_cases h1 : b ∈ bs <;> by_cases h2 : b < H.length <;> by_cases h3 : x = b <;> simp_all
  all_goals (intro e; exact absurd e.symm h3)
theorem mem_hidden {ops : Array Oper} {B : List Nat} {n0 k b : Nat} : b ∈ hidden ops B n0 k ↔ ∃ j,j < ops.size ∧ newAt ops j = true ∧ (B.getD k 0).testBit j = false ∧ b = n0 + j := by
 simp only [hidden,List.mem_map,List.mem_filter,List.mem_range,qj,Bool.not_eq_true']
 constructor
 ·rintro ⟨j,⟨h1,h2,h3⟩,rfl⟩
  exact ⟨j,h1,h2,h3,rfl⟩
 ·rintro ⟨j,h1,h2,h3,rfl⟩
  exact ⟨j,⟨h1,h2,h3⟩,rfl⟩
def Bits (ops : Array Oper) (B : List Nat) : Prop :=
 ∀ (D : Nat → Bool),(∀ i o,ops[i]? = some o → D i = true → ∀ e ∈ o.after.toList,Region.binds .any e = true → D e.on = true) →
  ∀ i k,i < ops.size → D i = true → (B.getD i 0).testBit k = true → D k = true
theorem fold_bits (acc : List Nat) (k : Nat) : ∀ (es : List Edge) (s : Nat),(es.foldl (fun s e => if Region.binds .any e then s ||| 2 ^ e.on ||| acc.getD e.on 0 else s) s).testBit k = true →
 s.testBit k = true ∨ ∃ e ∈ es,Region.binds .any e = true ∧ (k = e.on ∨ (acc.getD e.on 0).testBit k = true)
 | [],s,h => .inl h
 | e :: es,s,h => by
  rw [List.foldl_cons] at h
  rcases fold_bits acc k es _ h with h1 | ⟨e',he,h2⟩
  ·split at h1
   ·rename_i hb
    simp only [Nat.testBit_or,Bool.or_eq_true,Nat.testBit_two_pow,decide_eq_true_eq] at h1
    rcases h1 with (h1 | h1) | h1
    ·exact .inl h1
    ·exact .inr ⟨e,List.mem_cons_self ..,hb,.inl h1.symm⟩
    ·exact .inr ⟨e,List.mem_cons_self ..,hb,.inr h1⟩
   ·exact .inl h1
  ·exact .inr ⟨e',List.mem_cons_of_mem _ he,h2⟩
theorem befs_bits {ops : Array Oper} (D : Nat → Bool) (hD : ∀ i o,ops[i]? = some o → D i = true → ∀ e ∈ o.after.toList,Region.binds .any e = true → D e.on = true) :
 ∀ (l : List Oper) (acc : List Nat),(∀ j,l[j]? = ops[acc.length + j]?) → (∀ i k,i < acc.length → D i = true → (acc.getD i 0).testBit k = true → D k = true) →
  ∀ i k,D i = true → ((befs l acc).getD i 0).testBit k = true → D k = true
 | [],acc,_,ha,i,k,hi,hk => by
  simp only [befs] at hk
  rcases qm i acc.length with h | h
  ·exact ha i k h hi hk
  ·rw [qi,qr h] at hk
   simp at hk
 | o :: l,acc,hl,ha,i,k,hi,hk => by
  simp only [befs] at hk
  refine befs_bits D hD l _ (fun j => ?_) ?_ i k hi hk
  ·have := hl (j + 1)
   simp only [List.getElem?_cons_succ] at this
   rw [this]
   congr 1
   simp
   omega
  ·intro i k hlt hDi hbit
   rcases qm i acc.length with h | h
   ·rw [qi,qg h,← qi] at hbit
    exact ha i k h hDi hbit
   ·have hie : i = acc.length := by simp at hlt; omega
    subst hie
    rw [qi,qk (qf _)] at hbit
    simp only [Nat.sub_self,List.getElem?_cons_zero,Option.getD_some] at hbit
    have ho : ops[acc.length]? = some o := by have := hl 0; simpa using this.symm
    rcases fold_bits acc k _ _ hbit with h1 | ⟨e,he,hb,h2⟩
    ·simp at h1
    ·have hDe := hD _ o ho hDi e he hb
     rcases h2 with rfl | h2
     ·exact hDe
     ·rcases qm e.on acc.length with h3 | h3
      ·exact ha _ _ h3 hDe h2
      ·rw [qi,qr h3] at h2
       simp at h2
theorem befs_ok (ops : Array Oper) : Bits ops (befs ops.toList []) := by
 intro D hD i k _ hi hk
 exact befs_bits D hD ops.toList [] (fun j => by simp) (fun i k h => by simp at h) i k hi hk
theorem befs_lt {ops : Array Oper} (he : ∀ j o,ops[j]? = some o → ∀ e ∈ o.after.toList,Region.binds .any e = true → e.on < j) : ∀ (l : List Oper) (acc : List Nat),(∀ j,l[j]? = ops[acc.length + j]?) →
 (∀ i k,i < acc.length → (acc.getD i 0).testBit k = true → k < i) → ∀ i k,((befs l acc).getD i 0).testBit k = true → k < i
 | [],acc,_,ha,i,k,hk => by
  simp only [befs] at hk
  rcases qm i acc.length with h | h
  ·exact ha i k h hk
  ·rw [qi,qr h] at hk
   simp at hk
 | o :: l,acc,hl,ha,i,k,hk => by
  simp only [befs] at hk
  refine befs_lt he l _ (fun j => ?_) ?_ i k hk
  ·have := hl (j + 1)
   simp only [List.getElem?_cons_succ] at this
   rw [this]
   congr 1
   simp
   omega
  ·intro i k hlt hbit
   rcases qm i acc.length with h | h
   ·rw [qi,qg h,← qi] at hbit
    exact ha i k h hbit
   ·have hie : i = acc.length := by simp at hlt; omega
    subst hie
    rw [qi,qk (qf _)] at hbit
    simp only [Nat.sub_self,List.getElem?_cons_zero,Option.getD_some] at hbit
    have ho : ops[acc.length]? = some o := by have := hl 0; simpa using this.symm
    rcases fold_bits acc k _ _ hbit with h1 | ⟨e,hm,hb,h2⟩
    ·simp at h1
    ·have hlt := he _ o ho e hm hb
     rcases h2 with rfl | h2
     ·exact hlt
     ·have := ha _ _ hlt h2
      omega
structure PairOk (ops : Array Oper) (B : List Nat) : Prop where
 edge : ∀ j o,ops[j]? = some o → ∀ e ∈ o.after.toList,Region.binds .any e = true → e.on < j
 pair : ∀ i j x y,i < j → ops[i]? = some x → ops[j]? = some y → (B.getD j 0).testBit i = true ∨ (Oper.apart ops x y = true ∧ ¬ (isEffB x.op = true ∧ isEffB y.op = true))
theorem regionOk_spec {ops : Array Oper} {B : List Nat} (h : regionOk ops B = true) : PairOk ops B := by
 unfold regionOk at h
 rw [List.all_eq_true] at h
 have lt : ∀ j o,ops[j]? = some o → j < ops.size := by
  intro j o ho
  exact (Array.getElem?_eq_some_iff.1 ho).1
 constructor
 ·intro j o ho e he hb
  have := h j (List.mem_range.2 (lt j o ho))
  simp only [ho,qj,List.all_eq_true,Bool.or_eq_true,Bool.not_eq_true',decide_eq_true_eq] at this
  rcases this.1 e he with h1 | h1
  ·rw [hb] at h1; cases h1
  ·exact h1
 ·intro i j x y hij hx hy
  have := h j (List.mem_range.2 (lt j y hy))
  simp only [qj,List.all_eq_true] at this
  have := this.2 i (List.mem_range.2 hij)
  unfold pairOk at this
  rw [hx,hy] at this
  simp only [Bool.or_eq_true,qj,Bool.not_eq_true',Bool.and_eq_false_iff] at this
  rcases this with h1 | ⟨h1,h2⟩
  ·exact .inl h1
  ·refine .inr ⟨h1,fun ⟨h3,h4⟩ => ?_⟩
   rcases h2 with h2 | h2
   ·rw [h3] at h2; cases h2
   ·rw [h4] at h2; cases h2
inductive DStep (S : AStat) (call : CallF) (lo n0 : Nat) (ops : Array Oper) (B : List Nat) (reads : List (Nat × Nat)) (touches : List (Nat × Option (List Nat))) (k : Nat) (o : Oper) (ρ : List AVal) (H : Heap) (ρ' : List AVal) (H' : Heap) : Prop where
 | skip (hg : guardA ops.toList ρ o = some false) (hρ : ρ' = putA ρ o.dst undefA) (hH : H' = H)
 | new (hg : guardA ops.toList ρ o = some true) (hn : isNewB o.op = true) (blk : ABlk) (mk : Nat → AVal) (h : newA S ρ o.op = some (blk,mk)) (hd : H[n0 + k]? = some none)
  (hρ : ρ' = putA ρ o.dst (mk (n0 + k))) (hH : H' = H.set (n0 + k) (some blk))
 | eff (hg : guardA ops.toList ρ o = some true) (hn : isNewB o.op = false) (he : isEffB o.op = true) (v : AVal) (H1 : Heap) (h : effA S call lo ρ (hide H (hidden ops B n0 k)) o.op = some (v,H1)) (hl : H.length ≤ H1.length)
  (hρ : ρ' = putA ρ o.dst v) (hH : H' = unhide H H1 (hidden ops B n0 k)) (ht : (k,touchD S ρ o.op (hide H (hidden ops B n0 k)) H1) ∈ touches)
 | quiet (hg : guardA ops.toList ρ o = some true) (hn : isNewB o.op = false) (he : isEffB o.op = false) (v : AVal) (h : quietA S ρ H o.op = some v) (hρ : ρ' = putA ρ o.dst v) (hH : H' = H)
  (hr : ∀ b,readsA S ρ o.op = some b → (k,b) ∈ reads)
theorem DStep.more {S : AStat} {call : CallF} {lo n0 : Nat} {ops : Array Oper} {B : List Nat} {reads reads' : List (Nat × Nat)} {touches touches' : List (Nat × Option (List Nat))} {k : Nat} {o : Oper} {ρ ρ' : List AVal} {H H' : Heap}
 (hr : ∀ x ∈ reads,x ∈ reads') (ht : ∀ x ∈ touches,x ∈ touches') (h : DStep S call lo n0 ops B reads touches k o ρ H ρ' H') : DStep S call lo n0 ops B reads' touches' k o ρ H ρ' H' := by
 cases h with
 | skip a b c => exact .skip a b c
 | new a b c d e f g h => exact .new a b c d e f g h
 | eff a b c d e f l g h i => exact .eff a b c d e f l g h (ht _ i)
 | quiet a b c d e f g h => exact .quiet a b c d e f g fun x hx => hr _ (h x hx)
theorem drawGo_trace {S : AStat} {call : CallF} {lo n0 : Nat} {ops : Array Oper} {B : List Nat} : ∀ (l : List Oper) (k : Nat) (ρ : List AVal) (H : Heap) (r : DrawOut),drawGo S call lo n0 ops B l k ρ H = some r →
 (∀ j,l[j]? = ops[k + j]?) → k + l.length = ops.size →
 ∃ (ρs : Nat → List AVal) (Hs : Nat → Heap),ρs k = ρ ∧ Hs k = H ∧ ρs ops.size = r.ρ ∧ Hs ops.size = r.H ∧
  ∀ j o,k ≤ j → ops[j]? = some o → DStep S call lo n0 ops B r.reads r.touches j o (ρs j) (Hs j) (ρs (j + 1)) (Hs (j + 1))
 | [],k,ρ,H,r,h,hl,hs => by
  simp only [drawGo,qa] at h
  subst h
  simp only [List.length_nil,Nat.add_zero] at hs
  subst hs
  refine ⟨fun _ => ρ,fun _ => H,rfl,rfl,rfl,rfl,fun j o hj ho => ?_⟩
  have := (Array.getElem?_eq_some_iff.1 ho).1
  omega
 | o :: l,k,ρ,H,r,h,hl,hs => by
  have ho : ops[k]? = some o := by have := hl 0; simpa using this.symm
  have hl' : ∀ j,l[j]? = ops[k + 1 + j]? := fun j => by have := hl (j + 1); simp only [List.getElem?_cons_succ] at this; rw [this]; congr 1; omega
  have hs' : k + 1 + l.length = ops.size := by simp at hs; omega
  have build : ∀ (ρ1 : List AVal) (H1 : Heap) (r1 : DrawOut),drawGo S call lo n0 ops B l (k + 1) ρ1 H1 = some r1 → r1.ρ = r.ρ → r1.H = r.H → (∀ x ∈ r1.reads,x ∈ r.reads) → (∀ x ∈ r1.touches,x ∈ r.touches) →
   DStep S call lo n0 ops B r.reads r.touches k o ρ H ρ1 H1 →
   ∃ (ρs : Nat → List AVal) (Hs : Nat → Heap),ρs k = ρ ∧ Hs k = H ∧ ρs ops.size = r.ρ ∧ Hs ops.size = r.H ∧
    ∀ j o,k ≤ j → ops[j]? = some o → DStep S call lo n0 ops B r.reads r.touches j o (ρs j) (Hs j) (ρs (j + 1)) (Hs (j + 1)) := by
   intro ρ1 H1 r1 hgo e1 e2 hr ht hd
   obtain ⟨ρs,Hs,g1,g2,g3,g4,g5⟩ := drawGo_trace l (k + 1) ρ1 H1 r1 hgo hl' hs'
   have hk : k < ops.size := (Array.getElem?_eq_some_iff.1 ho).1
   refine ⟨fun j => if j = k then ρ else ρs j,fun j => if j = k then H else Hs j,by simp,by simp, ?_, ?_, ?_⟩
   ·simp only
    rw [if_neg (by omega),g3,e1]
   ·simp only
    rw [if_neg (by omega),g4,e2]
   ·intro j o' hj ho'
    by_cases hjk : j = k
    ·subst hjk
     rw [ho] at ho'
     cases ho'
     simp only [if_true]
     rw [if_neg (by omega),if_neg (by omega),g1,g2]
     exact hd
    ·simp only
     rw [if_neg hjk,if_neg hjk,if_neg (by omega),if_neg (by omega)]
     exact (g5 j o' (by omega) ho').more hr ht
  simp only [drawGo] at h
  split at h
  ·cases h
  ·rename_i hg
   exact build _ _ r h rfl rfl (fun _ h => h) (fun _ h => h) (.skip hg rfl rfl)
  ·rename_i hg
   split at h
   ·rename_i hn
    split at h
    ·cases h
    ·rename_i blk mk hnew
     split at h
     ·rename_i hd
      exact build _ _ r h rfl rfl (fun _ h => h) (fun _ h => h) (.new hg hn blk mk hnew hd rfl rfl)
     ·cases h
   ·rename_i hn
    simp only [Bool.not_eq_true] at hn
    split at h
    ·rename_i he
     split at h
     ·cases h
     ·rename_i v H1 heff
      split at h
      ·rename_i hlen
       split at h
       ·cases h
       ·rename_i r1 hgo
        simp only [qa] at h
        subst h
        exact build _ _ r1 hgo rfl rfl (fun _ h => h) (fun _ h => List.mem_cons_of_mem _ h) (.eff hg hn he v H1 heff hlen rfl rfl (List.mem_cons_self ..))
      ·cases h
    ·rename_i he
     simp only [Bool.not_eq_true] at he
     split at h
     ·cases h
     ·rename_i v hq
      split at h
      ·cases h
      ·rename_i r1 hgo
       split at h
       ·rename_i hrd
        simp only [qa] at h
        subst h
        exact build _ _ r1 hgo rfl rfl (fun _ h => h) (fun _ h => h) (.quiet hg hn he v hq rfl rfl (fun b hb => by rw [hrd] at hb; cases hb))
       ·rename_i b hrd
        simp only [qa] at h
        subst h
        refine build _ _ r1 hgo rfl rfl (fun _ h => List.mem_cons_of_mem _ h) (fun _ h => h) (.quiet hg hn he v hq rfl rfl (fun b' hb => ?_))
        rw [hrd] at hb
        cases hb
        exact List.mem_cons_self ..
def CallStill (S : AStat) (call : CallF) : Prop := ∀ lo g args H r H',stillB S g = true → call lo g args H = some (r,H') → H.length ≤ H'.length ∧ ∀ b,b < H.length → H'[b]? = H[b]?
theorem callA_still (S : AStat) {rec : ExecF} (hL : RecLow rec) : CallStill S (callA S rec) := by
 intro lo g args H r H' hh h
 rw [stillB,Bool.or_eq_true,qj,Bool.or_eq_true,beq_iff_eq,beq_iff_eq] at hh
 rcases hh with hq | ⟨hh,hp | hp⟩
 ·obtain ⟨hk,h1,h2⟩ := S.quietOk g hq
  simp only [callA,h1] at h
  rw [h2 _ _ _ _ _ h]
  exact ⟨qf _,fun _ _ => rfl⟩
 ·unfold callA at h
  split at h
  ·rename_i hk hhk
   rw [hhk] at hh
   cases hh
  ·split at h
   ·cases h
   ·split at h
    ·cases h
    ·split at h
     ·cases h
     ·cases h
     ·split at h
      ·cases h
      ·rw [hp] at h
       simp only [finish] at h
       rw [qd] at h
       obtain ⟨_,_,h2⟩ := h
       simp only [qe] at h2
       rw [← h2.2]
       exact ⟨qf _,fun _ _ => rfl⟩
 ·exact callA_fresh hL hh hp h
set_option maxHeartbeats 1000000 in
theorem eff_keeps {S : AStat} {call : CallF} (hC : CallStill S call) {lo : Nat} {ρ : List AVal} {H H1 : Heap} {op : Op} {v : AVal} {l : List Nat} (h : effA S call lo ρ H op = some (v,H1)) (ht : touchA S ρ op = some l) :
 H.length ≤ H1.length ∧ ∀ b,b < H.length → b ∉ l → H1[b]? = H[b]? := by
 have setk : ∀ (H : Heap) (x b : Nat) (y : Option ABlk),b ≠ x → (H.set x y)[b]? = H[b]? := fun H x b y hb => by rw [qh,if_neg (fun e => hb e.symm)]
 have upd : ∀ {t : TypeId} {m k y : AVal} {H1 : Heap},mapUpdateA S.P lo t H m k y = some H1 → (blkOf m).toList = l → H.length ≤ H1.length ∧ ∀ b,b < H.length → b ∉ l → H1[b]? = H[b]? := by
  intro t m k y H1 h hl
  unfold mapUpdateA at h
  (repeat' split at h) <;> first
   | (cases h; done)
   | (simp only [qa] at h
      subst h
      simp only [blkOf,Option.toList_some] at hl
      subst hl
      exact ⟨by simp,fun b _ hb => setk _ _ _ _ (by simpa using hb)⟩)
 unfold effA at h
 split at h
 ·rename_i t x y
  rw [qd] at h
  obtain ⟨H2,h1,h2⟩ := h
  simp only [qe] at h2
  obtain ⟨rfl,rfl⟩ := h2
  simp only [touchA,qa] at ht
  unfold storeA at h1
  split at h1
  ·rename_i b off e
   rw [e] at ht
   simp only [blkOf,Option.toList_some] at ht
   subst ht
   split at h1
   ·split at h1
    ·simp only [qa] at h1
     subst h1
     exact ⟨by simp,fun b _ hb => setk _ _ _ _ (by simpa using hb)⟩
    ·cases h1
   ·cases h1
  ·cases h1
 ·rw [qd] at h
  obtain ⟨H2,h1,h2⟩ := h
  simp only [qe] at h2
  obtain ⟨rfl,rfl⟩ := h2
  simp only [touchA,qa] at ht
  exact upd h1 ht
 ·rw [qd] at h
  obtain ⟨H2,h1,h2⟩ := h
  simp only [qe] at h2
  obtain ⟨rfl,rfl⟩ := h2
  simp only [touchA,qa] at ht
  exact upd h1 ht
 ·rename_i x isString
  simp only [touchA,qa] at ht
  generalize evalA S ρ x = a at h ht
  unfold nextA at h
  (repeat' split at h) <;> first
   | (cases h; done)
   | (simp only [blkOf,Option.toList_some] at ht
      subst ht
      simp only [qa,qe] at h
      obtain ⟨_,rfl⟩ := h
      first
       | exact ⟨qf _,fun _ _ _ => rfl⟩
       | exact ⟨by simp,fun b _ hb => setk _ _ _ _ (by simpa using hb)⟩)
 ·cases ht
 ·cases ht
 ·cases ht
 ·rename_i args ts
  split at h
  ·rename_i s x t u e1 e2
   have h0 : ∃ o0,args[0]? = some o0 ∧ evalA S ρ o0 = s := by
    cases hargs : args.toList with
    | nil => rw [hargs] at e1; simp at e1
    | cons o0 rest =>
     rw [hargs] at e1
     simp only [List.map_cons,List.cons.injEq] at e1
     refine ⟨o0, ?_,e1.1⟩
     have : args.toList[0]? = some o0 := by rw [hargs]; rfl
     simpa using this
   obtain ⟨o0,h1,h2⟩ := h0
   simp only [touchA,h1,h2] at ht
   unfold appendA at h
   (repeat' split at h) <;> first
    | (cases h; done)
    | (simp only at h; cases h; done)
    | (simp only at h
       (repeat' split at h) <;> first
        | (cases h; done)
        | (simp only [qa,qe] at h
           obtain ⟨_,rfl⟩ := h
           first
            | exact ⟨qf _,fun b _ _ => rfl⟩
            | exact ⟨by simp,fun b hb _ => qg hb⟩
            | (simp only [qa] at ht
               subst ht
               exact ⟨by simp,fun b _ hb => setk _ _ _ _ (by simpa using hb)⟩)
            | (simp only [qa] at ht
               subst ht
               exact ⟨by simp,fun b hb hb2 => by rw [qg (by simpa using hb)]; exact setk _ _ _ _ (by simpa using hb2)⟩)))
  ·cases h
 ·rename_i f args ts
  split at h
  ·rename_i g first captured e
   simp only [touchA,e] at ht
   split at ht
   ·rename_i hg
    split at h
    ·simp only [qa,qe] at h
     obtain ⟨_,rfl⟩ := h
     exact ⟨qf _,fun _ _ _ => rfl⟩
    ·have := hC _ _ _ _ _ _ hg h
     exact ⟨this.1,fun b hb _ => this.2 b hb⟩
   ·cases ht
  ·cases h
 ·simp only [touchA] at ht
  cases ht
 ·cases h
theorem samePs_ok : ∀ {as bs : List AVal},samePs as bs = true → as = bs
 | [],[],_ => rfl
 | [],_ :: _,h => by simp [samePs] at h
 | a :: as,[],h => by cases a <;> simp [samePs] at h
 | a :: as,b :: bs,h => by
  cases a <;> cases b <;> simp only [samePs] at h <;> try cases h
  ·simp only [qj,decide_eq_true_eq] at h
   obtain ⟨⟨rfl,rfl⟩,h⟩ := h
   rw [samePs_ok h]
  ·simp only [qj,Nat.beq_eq] at h
   obtain ⟨⟨rfl,rfl⟩,h⟩ := h
   rw [samePs_ok h]
  ·rw [samePs_ok h]
  ·simp only [qj,Nat.beq_eq,beq_iff_eq] at h
   obtain ⟨⟨⟨⟨⟨⟨rfl,rfl⟩,rfl⟩,rfl⟩,rfl⟩,rfl⟩,h⟩ := h
   rw [samePs_ok h]
theorem sameB_ok {x y : Option (Option ABlk)} (h : sameB x y = true) : x = y := by
 unfold sameB at h
 split at h
 ·rw [samePs_ok h]
 ·cases h
theorem touchD_keeps {S : AStat} {call : CallF} (hC : CallStill S call) {lo : Nat} {ρ : List AVal} {H H1 : Heap} {op : Op} {v : AVal} {l : List Nat} (h : effA S call lo ρ H op = some (v,H1)) (hl : H.length ≤ H1.length) (ht : touchD S ρ op H H1 = some l) :
 H.length ≤ H1.length ∧ ∀ b,b < H.length → b ∉ l → H1[b]? = H[b]? := by
 unfold touchD at ht
 split at ht
 ·rename_i l' e
  cases ht
  exact eff_keeps hC h e
 ·cases ht
  refine ⟨hl,fun b hb hn => ?_⟩
  have : sameB H[b]? H1[b]? = true := by
   cases hs : sameB H[b]? H1[b]? with
   | true => rfl
   | false => exact (hn (List.mem_filter.2 ⟨List.mem_range.2 hb,by simp only [hs]; rfl⟩)).elim
  exact (sameB_ok this).symm
theorem quiet_local {S : AStat} {ρ : List AVal} {H H' : Heap} {op : Op} (h : ∀ b,readsA S ρ op = some b → H'[b]? = H[b]?) : quietA S ρ H' op = quietA S ρ H op := by
 have hat : ∀ x,(∀ b,blkOf x = some b → H'[b]? = H[b]?) → atA H' x = atA H x := by
  intro x hx
  cases x <;> simp only [atA]
  rw [hx _ rfl]
 unfold quietA
 split <;> try rfl
 ·rename_i t x
  simp only [loadA]
  rw [hat _ h]
 ·rename_i s d x
  have hx : ∀ sz b off len cap ex,evalA S ρ x = .sl sz b off len cap ex → H'[b]? = H[b]? := fun sz b off len cap ex e => h b (by simp only [readsA,e,slBlk])
  unfold convHA
  split
  ·rfl
  ·unfold strOfA
   split <;> try rfl
   split <;> try rfl
   rename_i sz b off len cap ex _ e
   rw [hx _ b _ _ _ _ e]
 ·rename_i t x lo hi mx
  have hx : ∀ b off,evalA S ρ x = .ptr b off → H'[b]? = H[b]? := fun b off e => h b (by simp only [readsA,e,blkOf])
  unfold sliceA
  split <;> try rfl
  split <;> try rfl
  split <;> try rfl
  rename_i b off e
  rw [hx b off e]
 ·rename_i t m x ok
  have hx : ∀ b,evalA S ρ m = .mapr b → H'[b]? = H[b]? := fun b e => h b (by simp only [readsA,e,blkOf])
  unfold lookupA
  split <;> try rfl
  split <;> try rfl
  split <;> try rfl
  split <;> try rfl
  rename_i b e
  rw [hx b e]
 ·rename_i args ts
  split <;> try rfl
  rename_i t x ht hx
  have hx' : ∀ b,evalA S ρ x = .mapr b → H'[b]? = H[b]? := fun b e => h b (by simp only [readsA,hx,e])
  unfold lenA
  split <;> try rfl
  rename_i b e2 e
  rw [hx' b e]
theorem slice_dead {P : Program} {t : TypeId} {H : Heap} {b off : Nat} {lo hi mx : Option AVal} (hd : ∀ blk,H[b]? ≠ some (some blk)) : sliceA P t H (.ptr b off) lo hi mx = none := by
 unfold sliceA
 split
 ·split <;> first | contradiction | rfl
 ·split
  ·split <;> first | contradiction | rfl
  ·rfl
 ·split
  ·cases hh : H[b]? with
   | none => simp [hh]
   | some o => cases o with
    | none => simp [hh]
    | some blk => exact absurd hh (hd blk)
  ·rfl
 ·rfl
theorem slice_map {P : Program} {t : TypeId} {H : Heap} {b : Nat} {lo hi mx : Option AVal} : sliceA P t H (.mapr b) lo hi mx = none := by
 unfold sliceA
 split
 ·split <;> first | contradiction | rfl
 ·split
  ·split <;> first | contradiction | rfl
  ·rfl
 ·split
  ·split <;> first | contradiction | rfl
  ·rfl
 ·rfl
theorem lookup_dead {P : Program} {t : TypeId} {H : Heap} {b : Nat} {x : AVal} {ok : Bool} (hd : ∀ blk,H[b]? ≠ some (some blk)) : lookupA P t H (.mapr b) x ok = none := by
 unfold lookupA
 split
 ·split
  ·split
   ·split
    all_goals first
     | contradiction
     | rfl
     | (cases hh : H[b]? with
      | none => simp_all
      | some o => cases o with
       | none => simp_all
       | some blk => exact absurd hh (hd blk))
   ·rfl
  ·rfl
 ·rfl
theorem lookup_ptr {P : Program} {t : TypeId} {H : Heap} {b off : Nat} {x : AVal} {ok : Bool} : lookupA P t H (.ptr b off) x ok = none := by
 unfold lookupA
 split
 ·split
  ·split
   ·split <;> first | contradiction | rfl
   ·rfl
  ·rfl
 ·rfl
theorem len_dead {P : Program} {t : TypeId} {H : Heap} {b : Nat} (hd : ∀ blk,H[b]? ≠ some (some blk)) : lenA P t H (.mapr b) = none := by
 unfold lenA
 split <;> first
  | contradiction
  | rfl
  | (rename_i hne _; exact absurd rfl (hne _))
  | skip
 all_goals (cases hh : H[b]? with
  | none => simp_all
  | some o => cases o with
   | none => simp_all
   | some blk => exact absurd hh (hd blk))
theorem quiet_live {S : AStat} {ρ : List AVal} {H : Heap} {op : Op} {v : AVal} {b : Nat} (h : quietA S ρ H op = some v) (hb : readsA S ρ op = some b) : ∃ blk,H[b]? = some (some blk) := by
 have ptr : ∀ x,blkOf x = some b → (∃ off,x = .ptr b off) ∨ x = .mapr b := by
  intro x hx
  cases x <;> simp only [blkOf,qa] at hx <;> first | (cases hx; done) | (subst hx; first | exact .inl ⟨_,rfl⟩ | exact .inr rfl)
 by_cases hd : ∃ blk,H[b]? = some (some blk)
 ·exact hd
 ·exfalso
  have hd' : ∀ blk,H[b]? ≠ some (some blk) := fun blk e => hd ⟨blk,e⟩
  unfold readsA at hb
  split at hb
  ·rename_i t x
   simp only [quietA,loadA] at h
   rw [Option.bind_eq_some_iff] at h
   obtain ⟨cs,h1,_⟩ := h
   rcases ptr _ hb with ⟨off,e⟩ | e <;> rw [e] at h1 <;> simp only [atA] at h1
   ·split at h1
    ·rename_i cs' hc; exact hd' _ hc
    ·cases h1
   ·cases h1
  ·rename_i t m x ok
   simp only [quietA] at h
   rcases ptr _ hb with ⟨off,e⟩ | e <;> rw [e] at h
   ·rw [lookup_ptr] at h; cases h
   ·rw [lookup_dead hd'] at h; cases h
  ·rename_i t x lo hi mx
   simp only [quietA] at h
   rcases ptr _ hb with ⟨off,e⟩ | e <;> rw [e] at h
   ·rw [slice_dead hd'] at h; cases h
   ·rw [slice_map] at h; cases h
  ·rename_i s d x
   simp only [quietA] at h
   cases e : evalA S ρ x <;> rw [e] at hb <;> simp only [slBlk,qa] at hb <;> first | (cases hb; done) | skip
   subst hb
   rw [e] at h
   unfold convHA at h
   split at h
   ·rename_i hc
    unfold convA at hc
    (repeat' split at hc) <;> first | (cases hc; done) | contradiction
   ·unfold strOfA at h
    split at h
    ·split at h
     ·contradiction
     ·contradiction
     ·rename_i e2
      cases e2
      split at h
      ·split at h
       ·rename_i hc; exact hd' _ hc
       ·cases h
      ·cases h
     ·cases h
    ·cases h
  ·rename_i args ts
   simp only [quietA] at h
   split at hb
   ·rename_i x hx
    split at hb
    ·rename_i b' e
     cases hb
     rw [hx] at h
     split at h
     ·rename_i t x' ht hx'
      cases hx'
      rw [e] at h
      rw [len_dead hd'] at h; cases h
     ·cases h
    ·cases hb
   ·cases hb
  ·cases hb
end Go.Am

/- That a region whose order is open keeps to the idealised one, in whatever order: what holds on the way. Generic: over any program. -/
namespace Go.Am
set_option linter.unusedVariables false
open Go.RowKit
structure Tra (S : AStat) (call : CallF) (lo n0 : Nat) (ops : Array Oper) (B : List Nat) (reads : List (Nat × Nat)) (touches : List (Nat × Option (List Nat))) (ρs : Nat → List AVal) (Hs : Nat → Heap) : Prop where
 step : ∀ j o,ops[j]? = some o → DStep S call lo n0 ops B reads touches j o (ρs j) (Hs j) (ρs (j + 1)) (Hs (j + 1))
 pair : PairOk ops B
 bits : Bits ops B
 lt : ∀ i k,(B.getD i 0).testBit k = true → k < i
 apart : apartB B reads touches = true
 still : CallStill S call
 wide : ∀ m,m < ops.size → newAt ops m = true → n0 + m < (Hs 0).length
variable {S : AStat} {call : CallF} {lo n0 : Nat} {ops : Array Oper} {B : List Nat} {reads : List (Nat × Nat)} {touches : List (Nat × Option (List Nat))} {ρs : Nat → List AVal} {Hs : Nat → Heap}
theorem putA_length (ρ : List AVal) (d : Option Tmp) (v : AVal) : (putA ρ d v).length = ρ.length := by cases d <;> simp [putA]
theorem putA_other (ρ : List AVal) (d : Option Tmp) (v : AVal) (s : Nat) (h : d ≠ some s) : (putA ρ d v).getD s undefA = ρ.getD s undefA := by
 cases d with
 | none => rfl
 | some d =>
  have : d ≠ s := fun e => h (by rw [e])
  simp only [putA,qi,qh,if_neg this]
theorem Tra.put (T : Tra S call lo n0 ops B reads touches ρs Hs) {j : Nat} {o : Oper} (ho : ops[j]? = some o) : ∃ v,ρs (j + 1) = putA (ρs j) o.dst v := by
 cases T.step j o ho with
 | skip _ h _ => exact ⟨_,h⟩
 | new _ _ _ _ _ _ h _ => exact ⟨_,h⟩
 | eff _ _ _ _ _ _ _ h _ _ => exact ⟨_,h⟩
 | quiet _ _ _ _ _ h _ _ => exact ⟨_,h⟩
theorem Tra.slot (T : Tra S call lo n0 ops B reads touches ρs Hs) (s : Nat) : ∀ (d p : Nat),p + d ≤ ops.size → (∀ j,p ≤ j → j < p + d → dstAt ops j ≠ some s) → (ρs (p + d)).getD s undefA = (ρs p).getD s undefA
 | 0,p,_,_ => rfl
 | d + 1,p,hn,h => by
  have hlt : p + d < ops.size := by omega
  obtain ⟨v,hv⟩ := T.put (j := p + d) (o := ops[p + d]) (by simp [hlt])
  rw [show p + (d + 1) = p + d + 1 by omega,hv,putA_other _ _ _ _ (by have := h (p + d) (by omega) (by omega); simpa [dstAt,hlt] using this)]
  exact T.slot s d p (by omega) fun j h1 h2 => h j h1 (by omega)
theorem Tra.len (T : Tra S call lo n0 ops B reads touches ρs Hs) : ∀ k,k ≤ ops.size → (ρs k).length = (ρs 0).length
 | 0,_ => rfl
 | k + 1,h => by
  obtain ⟨v,hv⟩ := T.put (j := k) (o := ops[k]'(by omega)) (by simp [show k < ops.size by omega])
  rw [hv,putA_length]
  exact T.len k (by omega)
def newW (S : AStat) (ops : Array Oper) (ρs : Nat → List AVal) (j : Nat) : Bool :=
 match ops[j]? with
 | some o => isNewB o.op && guardA ops.toList (ρs j) o == some true
 | none => false
def isN (S : AStat) (ops : Array Oper) (ρs : Nat → List AVal) (n0 b : Nat) : Bool := decide (n0 ≤ b) && newW S ops ρs (b - n0)
def Keep (Hs : Nat → Heap) (j b : Nat) : Prop := b < (Hs j).length → (Hs (j + 1))[b]? = (Hs j)[b]? ∧ b < (Hs (j + 1)).length
theorem keep_chain (b : Nat) : ∀ (d p : Nat),b < (Hs p).length → (∀ j,p ≤ j → j < p + d → Keep Hs j b) → (Hs (p + d))[b]? = (Hs p)[b]? ∧ b < (Hs (p + d)).length
 | 0,p,h,_ => ⟨rfl,h⟩
 | d + 1,p,h,hk => by
  obtain ⟨h1,h2⟩ := keep_chain b d p h fun j g1 g2 => hk j g1 (by omega)
  obtain ⟨h3,h4⟩ := hk (p + d) (by omega) (by omega) h2
  exact ⟨h3.trans h1,h4⟩
theorem keep_chain' {b p q : Nat} (hpq : p ≤ q) (h : b < (Hs p).length) (hk : ∀ j,p ≤ j → j < q → Keep Hs j b) : (Hs q)[b]? = (Hs p)[b]? ∧ b < (Hs q).length := by
 have := keep_chain (Hs := Hs) b (q - p) p h fun j h1 h2 => hk j h1 (by omega)
 rwa [show p + (q - p) = q by omega] at this
theorem Tra.keep_calm (T : Tra S call lo n0 ops B reads touches ρs Hs) {j b : Nat} (hj : j < ops.size) (he : effAt ops j = false) (hn : newW S ops ρs j = true → b ≠ n0 + j) : Keep Hs j b := by
 intro hb
 have ho : ops[j]? = some ops[j] := by simp [hj]
 cases T.step j _ ho with
 | skip _ _ h => rw [h]; exact ⟨rfl,hb⟩
 | new hg hnw _ _ _ _ _ h =>
  have : newW S ops ρs j = true := by simp [newW,ho,hnw,hg]
  rw [h]
  exact ⟨by rw [qh,if_neg (fun e => hn this e.symm)],by simpa using hb⟩
 | eff _ _ h _ _ _ _ _ _ _ => simp [effAt,ho] at he; rw [he] at h; cases h
 | quiet _ _ _ _ _ _ h _ => rw [h]; exact ⟨rfl,hb⟩
theorem Tra.keep_hidden (T : Tra S call lo n0 ops B reads touches ρs Hs) {j m : Nat} (hj : j < ops.size) (he : effAt ops j = true) (hm : m < ops.size) (hn : newAt ops m = true) (hb : (B.getD j 0).testBit m = false) : Keep Hs j (n0 + m) := by
 intro hl
 have ho : ops[j]? = some ops[j] := by simp [hj]
 cases T.step j _ ho with
 | skip _ _ h => rw [h]; exact ⟨rfl,hl⟩
 | new _ hnw _ _ _ _ _ _ =>
  simp [effAt,ho] at he
  exfalso
  generalize (ops[j]).op = op at *
  cases op <;> simp [isNewB,isEffB] at hnw he
 | eff _ _ _ v H1 _ hlen _ h _ =>
  rw [h]
  rw [unhide_length]
  rw [unhide_get,if_pos ⟨mem_hidden.2 ⟨m,hm,hn,hb,rfl⟩,by omega⟩]
  refine ⟨?_,by omega⟩
  rw [qi,qt hl]
  rfl
 | quiet _ _ hq _ _ _ _ _ => simp [effAt,ho] at he; rw [he] at hq; cases hq
theorem Tra.keep_far (T : Tra S call lo n0 ops B reads touches ρs Hs) {i j b : Nat} (hj : j < ops.size) (he : effAt ops j = true) (hr : (i,b) ∈ reads) (h1 : (B.getD i 0).testBit j = false) (h2 : (B.getD j 0).testBit i = false) : Keep Hs j b := by
 intro hl
 have ho : ops[j]? = some ops[j] := by simp [hj]
 cases T.step j _ ho with
 | skip _ _ h => rw [h]; exact ⟨rfl,hl⟩
 | new _ hnw _ _ _ _ _ _ =>
  simp [effAt,ho] at he
  exfalso
  generalize (ops[j]).op = op at *
  cases op <;> simp [isNewB,isEffB] at hnw he
 | eff _ _ _ v H1 heff hlen _ h ht =>
  have hap := T.apart
  unfold apartB at hap
  rw [List.all_eq_true] at hap
  have := hap _ hr
  rw [List.all_eq_true] at this
  have := this _ ht
  simp only [h1,h2,Bool.false_or] at this
  split at this
  ·rename_i l hl'
   have hnl : b ∉ l := by simpa using this
   obtain ⟨g1,g2⟩ := touchD_keeps T.still heff (by rw [hide_length]; exact hlen) hl'
   rw [hide_length] at g1 g2
   rw [h,unhide_length,unhide_get]
   refine ⟨?_,by omega⟩
   split
   ·rw [qi,qt hl]
    rfl
   ·rename_i hnh
    rw [g2 b hl hnl,hide_get,if_neg]
    intro ⟨h3,_⟩
    exact hnh ⟨h3,by omega⟩
  ·cases this
 | quiet _ _ hq _ _ _ _ _ => simp [effAt,ho] at he; rw [he] at hq; cases hq
theorem Tra.mono1 (T : Tra S call lo n0 ops B reads touches ρs Hs) {j : Nat} (hj : j < ops.size) : (Hs j).length ≤ (Hs (j + 1)).length := by
 cases T.step j _ (show ops[j]? = some ops[j] by simp [hj]) with
 | skip _ _ h => rw [h]; exact qf _
 | new _ _ _ _ _ _ _ h => rw [h]; simp
 | eff _ _ _ _ _ _ hl _ h _ => rw [h,unhide_length]; exact hl
 | quiet _ _ _ _ _ _ h _ => rw [h]; exact qf _
theorem Tra.mono (T : Tra S call lo n0 ops B reads touches ρs Hs) {p : Nat} : ∀ (q : Nat),p ≤ q → q ≤ ops.size → (Hs p).length ≤ (Hs q).length
 | 0,h,_ => by have : p = 0 := by omega
               subst this; exact qf _
 | q + 1,h,hq => by
  rcases Nat.eq_or_lt_of_le h with h1 | h1
  ·rw [h1]; exact qf _
  ·exact Nat.le_trans (T.mono q (by omega) (by omega)) (T.mono1 (by omega))
theorem Tra.calm_len (T : Tra S call lo n0 ops B reads touches ρs Hs) : ∀ (d p : Nat),p + d ≤ ops.size → (∀ j,p ≤ j → j < p + d → effAt ops j = false) → (Hs (p + d)).length = (Hs p).length
 | 0,_,_,_ => rfl
 | d + 1,p,hn,h => by
  have hlt : p + d < ops.size := by omega
  have ih := T.calm_len d p (by omega) fun j h1 h2 => h j h1 (by omega)
  rw [← ih,show p + (d + 1) = p + d + 1 by omega]
  have he := h (p + d) (by omega) (by omega)
  have ho : ops[p + d]? = some ops[p + d] := by simp [hlt]
  cases T.step (p + d) _ ho with
  | skip _ _ h => rw [h]
  | new _ _ _ _ _ _ _ h => rw [h]; simp
  | eff _ _ h _ _ _ _ _ _ _ => simp [effAt,ho] at he; rw [he] at h; cases h
  | quiet _ _ _ _ _ _ h _ => rw [h]
def tm (S : AStat) (ops : Array Oper) (ρs : Nat → List AVal) (n0 tE b : Nat) : Nat := if isN S ops ρs n0 b then max tE (b - n0 + 1) else tE
def HD (S : AStat) (ops : Array Oper) (ρs : Nat → List AVal) (Hs : Nat → Heap) (n0 : Nat) (D : Nat → Bool) (tE : Nat) : Heap :=
 (List.range (Hs tE).length).map fun b => if isN S ops ρs n0 b && !D (b - n0) then none else (Hs (tm S ops ρs n0 tE b)).getD b none
theorem HD_length (D : Nat → Bool) (tE : Nat) : (HD S ops ρs Hs n0 D tE).length = (Hs tE).length := by simp [HD]
theorem HD_live {D : Nat → Bool} {tE b : Nat} {blk : ABlk} : (HD S ops ρs Hs n0 D tE)[b]? = some (some blk) ↔
 b < (Hs tE).length ∧ (isN S ops ρs n0 b = true → D (b - n0) = true) ∧ (Hs (tm S ops ρs n0 tE b))[b]? = some (some blk) := by
 unfold HD
 rcases qm b (Hs tE).length with h | h
 ·rw [List.getElem?_map,List.getElem?_range h]
  simp only [Option.map_some,h,true_and,qa]
  by_cases hn : isN S ops ρs n0 b = true
  ·by_cases hD : D (b - n0) = true
   ·simp only [hn,hD,Bool.not_true,Bool.and_false,Bool.false_eq_true,if_false,implies_true,true_and]
    rw [qi]
    cases (Hs (tm S ops ρs n0 tE b))[b]? <;> simp
   ·simp only [Bool.not_eq_true] at hD
    simp [hn,hD]
  ·simp only [Bool.not_eq_true] at hn
   simp only [hn,Bool.false_and,Bool.false_eq_true,if_false,false_implies,true_and]
   rw [qi]
   cases (Hs (tm S ops ρs n0 tE b))[b]? <;> simp
 ·rw [qr (by simpa using h)]
  simp
  omega
structure Inv (S : AStat) (lo n0 : Nat) (ops : Array Oper) (ρs : Nat → List AVal) (Hs : Nat → Heap) (c0 : Cx) (H0 : Heap) (D : Nat → Bool) (tE : Nat) (c : Cx) (a : Act) : Prop where
 tEn : tE ≤ ops.size
 eff : ∀ j,D j = true → effAt ops j = true → j < tE
 last : tE = 0 ∨ ∃ p,tE = p + 1 ∧ D p = true ∧ effAt ops p = true
 slots : ∀ s,∃ t,t ≤ ops.size ∧ (t = 0 ∨ ∃ p,t = p + 1 ∧ D p = true ∧ dstAt ops p = some s) ∧ (∀ j,D j = true → dstAt ops j = some s → j < t) ∧ V c ((ρs t).getD s undefA) (a.tmps.getD s undef)
 size : a.tmps.size = (ρs 0).length
 rel : Rel c (HD S ops ρs Hs n0 D tE)
 tr : Tr c0 H0 c (HD S ops ρs Hs n0 D tE)
 low : Low lo c0 H0 c (HD S ops ρs Hs n0 D tE)
 undone : ∀ m,newW S ops ρs m = true → D m = false → c.ι (n0 + m) = none
 defers : a.defers = []
 down : ∀ i o,ops[i]? = some o → D i = true → ∀ e ∈ o.after.toList,Region.binds .any e = true → D e.on = true
 dlt : ∀ i,D i = true → i < ops.size
 glob : GlobOk S c
 base : H0.length ≤ n0
structure Ready (ops : Array Oper) (D : Nat → Bool) (i : Nat) (o : Oper) : Prop where
 op : ops[i]? = some o
 not : D i = false
 pre : ∀ e ∈ o.after.toList,Region.binds .any e = true → D e.on = true
theorem Ready.bit {D : Nat → Bool} {i : Nat} {o : Oper} (hr : Ready ops D i o) (hb : Bits ops B) (hlt : ∀ i k,(B.getD i 0).testBit k = true → k < i)
 (down : ∀ i o,ops[i]? = some o → D i = true → ∀ e ∈ o.after.toList,Region.binds .any e = true → D e.on = true) {k : Nat} (hk : (B.getD i 0).testBit k = true) : D k = true := by
 have hi : i < ops.size := (Array.getElem?_eq_some_iff.1 hr.op).1
 have := hb (fun x => D x || x == i) (by
  intro x o' ho' hx e he hbd
  simp only [Bool.or_eq_true,beq_iff_eq] at hx ⊢
  rcases hx with hx | hx
  ·exact .inl (down x o' ho' hx e he hbd)
  ·subst hx
   rw [hr.op] at ho'
   cases ho'
   exact .inl (hr.pre e he hbd)) i k hi (by simp) hk
 simp only [Bool.or_eq_true,beq_iff_eq] at this
 rcases this with h | h
 ·exact h
 ·have := hlt i k hk
  omega
end Go.Am

/- That a region whose order is open keeps to the idealised one, in whatever order: the steps. Generic: over any program. -/
namespace Go.Am
open Go.RowKit
variable {S : AStat} {call : CallF} {lo n0 : Nat} {ops : Array Oper} {B : List Nat} {reads : List (Nat × Nat)} {touches : List (Nat × Option (List Nat))} {ρs : Nat → List AVal} {Hs : Nat → Heap}
variable {c0 c : Cx} {H0 : Heap} {D : Nat → Bool} {tE : Nat} {a : Act}
theorem Rel.sub {c : Cx} {H H2 : Heap} (hR : Rel c H) (hsub : ∀ (b : Nat) (blk : ABlk),H2[b]? = some (some blk) → H[b]? = some (some blk)) (hl : H.length ≤ H2.length) : Rel c H2 :=
 ⟨fun b blk h => hR.blk b blk (hsub b blk h),fun b b' x x' B y y' h h' => hR.inj b b' x x' B y y' (hsub b x h) (hsub b' x' h'),fun b hb => hR.fresh b (by omega),hR.lt⟩
theorem Tr.sub {c : Cx} {H H2 : Heap} (hsub : ∀ (b : Nat) (blk : ABlk),H2[b]? = some (some blk) → H[b]? = some (some blk)) : Tr c H c H2 :=
 ⟨Ext.refl c,qf _,fun _ _ _ => rfl,(fun B _ h => by obtain ⟨b,blk,base,h1,h2⟩ := h; exact ⟨b,blk,base,hsub b blk h1,h2⟩),fun _ _ h => .inl h,rfl,rfl,rfl⟩
theorem op_at {ops : Array Oper} {p : Nat} (h : p < ops.size) : ∃ x,ops[p]? = some x := ⟨ops[p],by simp [h]⟩
theorem newW_new {m : Nat} (h : newW S ops ρs m = true) : newAt ops m = true ∧ m < ops.size := by
 unfold newW at h
 unfold newAt
 cases ho : ops[m]? with
 | none => rw [ho] at h; cases h
 | some o =>
  rw [ho] at h
  simp only [qj] at h
  exact ⟨h.1,(Array.getElem?_eq_some_iff.1 ho).1⟩
theorem isN_spec {b : Nat} (h : isN S ops ρs n0 b = true) : n0 ≤ b ∧ newW S ops ρs (b - n0) = true := by
 simpa [isN] using h
theorem isN_of {m : Nat} (h : newW S ops ρs m = true) : isN S ops ρs n0 (n0 + m) = true := by
 simp [isN,h]
theorem new_not_eff {m : Nat} (h : newAt ops m = true) : effAt ops m = false := by
 unfold newAt at h
 unfold effAt
 cases ho : ops[m]? with
 | none => rfl
 | some o =>
  rw [ho] at h
  simp only at h ⊢
  generalize o.op = op at *
  cases op <;> simp [isNewB,isEffB] at h ⊢
theorem Inv.effs (T : Tra S call lo n0 ops B reads touches ρs Hs) (I : Inv S lo n0 ops ρs Hs c0 H0 D tE c a) {k : Nat} (hk : k < tE) (he : effAt ops k = true) : D k = true := by
 rcases I.last with h | ⟨p,h,hp,hpe⟩
 ·omega
 ·rcases Nat.eq_or_lt_of_le (show k ≤ p by omega) with h1 | h1
  ·rw [h1]; exact hp
  ·have hplt := I.dlt p hp
   have hok : ops[k]? = some ops[k] := by simp [show k < ops.size by omega]
   have hop : ops[p]? = some ops[p] := by simp [hplt]
   rcases T.pair.pair k p _ _ h1 hok hop with h2 | ⟨_,h2⟩
   ·exact T.bits D I.down p k hplt hp h2
   ·exact absurd ⟨by simpa [effAt,hok] using he,by simpa [effAt,hop] using hpe⟩ h2
theorem Inv.not_behind (T : Tra S call lo n0 ops B reads touches ρs Hs) (I : Inv S lo n0 ops ρs Hs c0 H0 D tE c a) {i : Nat} {o : Oper} (hr : Ready ops D i o) {j : Nat} (hj : D j = true) : (B.getD j 0).testBit i = false := by
 cases h : (B.getD j 0).testBit i with
 | false => rfl
 | true =>
  have := T.bits D I.down j i (I.dlt j hj) hj h
  rw [hr.not] at this
  cases this
theorem Inv.next (T : Tra S call lo n0 ops B reads touches ρs Hs) (I : Inv S lo n0 ops ρs Hs c0 H0 D tE c a) {i : Nat} {o : Oper} (hr : Ready ops D i o) (he : effAt ops i = true) : tE ≤ i ∧ ∀ k,k < i → effAt ops k = true → k < tE := by
 have hi : i < ops.size := (Array.getElem?_eq_some_iff.1 hr.op).1
 refine ⟨?_, ?_⟩
 ·rcases I.last with h | ⟨p,h,hp,hpe⟩
  ·omega
  ·rcases Nat.lt_trichotomy p i with h1 | h1 | h1
   ·omega
   ·subst h1; rw [hr.not] at hp; cases hp
   ·obtain ⟨y,hop⟩ := op_at (I.dlt p hp)
    rcases T.pair.pair i p _ _ h1 hr.op hop with h2 | ⟨_,h2⟩
    ·rw [I.not_behind T hr hp] at h2; cases h2
    ·exact absurd ⟨by simpa [effAt,hr.op] using he,by simpa [effAt,hop] using hpe⟩ h2
 ·intro k hk hke
  have hok : ops[k]? = some ops[k] := by simp [show k < ops.size by omega]
  rcases T.pair.pair k i _ _ hk hok hr.op with h2 | ⟨_,h2⟩
  ·exact I.eff k (hr.bit T.bits T.lt I.down h2) hke
  ·exact absurd ⟨by simpa [effAt,hok] using hke,by simpa [effAt,hr.op] using he⟩ h2
theorem Inv.look (T : Tra S call lo n0 ops B reads touches ρs Hs) (I : Inv S lo n0 ops ρs Hs c0 H0 D tE c a) {i : Nat} {o : Oper} (hr : Ready ops D i o) {s : Nat} (hs : s ∈ o.looksAt ops) : V c ((ρs i).getD s undefA) (a.tmps.getD s undef) := by
 have hi : i < ops.size := (Array.getElem?_eq_some_iff.1 hr.op).1
 obtain ⟨t,h1,h2,h3,h4⟩ := I.slots s
 have hti : t ≤ i := by
  rcases h2 with h | ⟨p,h,hp,hd⟩
  ·omega
  ·rcases Nat.lt_trichotomy p i with g | g | g
   ·omega
   ·subst g; rw [hr.not] at hp; cases hp
   ·obtain ⟨y,hop⟩ := op_at (I.dlt p hp)
    rcases T.pair.pair i p _ _ g hr.op hop with h5 | ⟨h5,_⟩
    ·rw [I.not_behind T hr hp] at h5; cases h5
    ·exact absurd hs ((Oper.apart_spec h5).2.2 s (by simpa [dstAt,hop] using hd))
 have := T.slot s (i - t) t (by omega) (by
  intro j hj1 hj2 hd
  have hjn : j < ops.size := by omega
  have hoj : ops[j]? = some ops[j] := by simp [hjn]
  have hji : j < i := by omega
  rcases T.pair.pair j i _ _ hji hoj hr.op with h5 | ⟨h5,_⟩
  ·have := h3 j (hr.bit T.bits T.lt I.down h5) hd
   omega
  ·exact (Oper.apart_spec h5).1 s (by simpa [dstAt,hoj] using hd) hs)
 rw [show t + (i - t) = i by omega] at this
 rw [this]
 exact h4
theorem Inv.evOn (T : Tra S call lo n0 ops B reads touches ρs Hs) (I : Inv S lo n0 ops ρs Hs c0 H0 D tE c a) {i : Nat} {o : Oper} (hr : Ready ops D i o) : EvOn S c (ρs i) a o.op.operands := by
 intro x hx
 cases x with
 | tmp t =>
  have : t ∈ o.looksAt ops := by
   unfold Oper.looksAt
   refine List.mem_append.2 (.inl ?_)
   rw [List.mem_filterMap]
   exact ⟨.tmp t,by simpa using hx,rfl⟩
  exact I.look T hr this
 | const v => exact constA_V c v
 | global g =>
  simp only [evalA,Act.eval]
  split
  ·rename_i cs h
   exact I.glob.v g cs h
  ·simp [V]
 | func f =>
  simp only [evalA,Act.eval,V]
  exact ⟨[],[],rfl,by simp [Vs],by simp [Vs]⟩
theorem Inv.guard (T : Tra S call lo n0 ops B reads touches ρs Hs) (I : Inv S lo n0 ops ρs Hs c0 H0 D tE c a) {i : Nat} {o : Oper} (hr : Ready ops D i o) {g : Bool} (h : guardA ops.toList (ρs i) o = some g) : Region.wanted o (yielded ops a.tmps) = g := by
 have hi : i < ops.size := (Array.getElem?_eq_some_iff.1 hr.op).1
 have hlen : (ρs i).length = a.tmps.size := by rw [T.len i (by omega),I.size]
 unfold guardA at h
 unfold Region.wanted
 split at h
 ·rename_i hg
  simp only [qa] at h
  rw [hg]
  exact h
 ·rename_i j want hg
  rw [hg]
  simp only
  have hops : ops.toList[j]? = ops[j]? := by simp
  rw [hops] at h
  split at h
  ·rename_i hd
   simp only [qa] at h
   subst h
   simp [yielded,hd]
  ·rename_i d hd
   have hmem : d ∈ o.looksAt ops := by
    unfold Oper.looksAt
    refine List.mem_append.2 (.inr ?_)
    rw [hg]
    simp [hd]
   have hV := I.look T hr hmem
   split at h
   ·rename_i hn
    simp only [qa] at h
    subst h
    have : a.tmps[d]? = none := by
     rw [List.getElem?_eq_none_iff] at hn
     rw [Array.getElem?_eq_none_iff]
     omega
    simp [yielded,hd,this]
   ·rename_i bv hn
    simp only [qa] at h
    subst h
    have hlt : d < a.tmps.size := Nat.lt_of_lt_of_eq (List.getElem?_eq_some_iff.1 hn).1 hlen
    rw [qi,hn] at hV
    simp only [Option.getD_some,V] at hV
    have : a.tmps[d]? = some (.bool bv) := by
     rw [qy] at hV
     rw [Array.getElem?_eq_getElem hlt] at hV ⊢
     simpa using hV
    simp [yielded,hd,this]
   ·cases h
   ·rename_i av hnb hnj hn
    simp only [qa] at h
    subst h
    have hlt : d < a.tmps.size := Nat.lt_of_lt_of_eq (List.getElem?_eq_some_iff.1 hn).1 hlen
    rw [qi,hn] at hV
    simp only [Option.getD_some] at hV
    have hv := not_bool hV (fun b e => hnb b e) (fun e => hnj e)
    have hy : yielded ops a.tmps j = none := by
     simp only [yielded,hd,Option.bind_some]
     rw [Array.getElem?_eq_getElem hlt]
     rw [qy,Array.getElem?_eq_getElem hlt] at hv
     simp only [Option.getD_some] at hv
     cases hval : a.tmps[d] <;> first | rfl | exact absurd hval (hv _)
    rw [hy]
    rfl
theorem Inv.slots' (T : Tra S call lo n0 ops B reads touches ρs Hs) (I : Inv S lo n0 ops ρs Hs c0 H0 D tE c a) {i : Nat} {o : Oper} (hr : Ready ops D i o) {c' : Cx} (hE : Ext c c') {v : AVal} {u : Value} (hv : V c' v u)
 (hρ : ρs (i + 1) = putA (ρs i) o.dst v) : ∀ s,∃ t,t ≤ ops.size ∧ (t = 0 ∨ ∃ p,t = p + 1 ∧ (D p || p == i) = true ∧ dstAt ops p = some s) ∧ (∀ j,(D j || j == i) = true → dstAt ops j = some s → j < t) ∧
  V c' ((ρs t).getD s undefA) ((a.put o.dst u).tmps.getD s undef) := by
 have hi : i < ops.size := (Array.getElem?_eq_some_iff.1 hr.op).1
 have hlen : (ρs i).length = a.tmps.size := by rw [T.len i (by omega),I.size]
 intro s
 by_cases hs : o.dst = some s
 ·refine ⟨i + 1,by omega,.inr ⟨i,rfl,by simp,by simp [dstAt,hr.op,hs]⟩, ?_, ?_⟩
  ·intro j hj hd
   simp only [Bool.or_eq_true,beq_iff_eq] at hj
   rcases hj with hj | hj
   ·rcases Nat.lt_trichotomy j i with h1 | h1 | h1
    ·omega
    ·omega
    ·obtain ⟨y,hoj⟩ := op_at (I.dlt j hj)
     rcases T.pair.pair i j _ _ h1 hr.op hoj with h5 | ⟨h5,_⟩
     ·rw [I.not_behind T hr hj] at h5; cases h5
     ·exact absurd (by simpa [dstAt,hoj] using hd) ((Oper.apart_spec h5).2.1 s hs)
   ·omega
  ·rw [hρ,hs]
   simp only [putA,Act.put]
   rw [qi,qy,qh,if_pos rfl]
   by_cases hlt : s < (ρs i).length
   ·rw [if_pos hlt,Array.getElem?_setIfInBounds,if_pos rfl,if_pos (Nat.lt_of_lt_of_eq hlt hlen)]
    simpa using hv
   ·rw [if_neg hlt,Array.getElem?_setIfInBounds,if_pos rfl,if_neg (fun h => hlt (Nat.lt_of_lt_of_eq h hlen.symm))]
    exact undef_V c'
 ·obtain ⟨t,h1,h2,h3,h4⟩ := I.slots s
  refine ⟨t,h1, ?_, ?_, ?_⟩
  ·rcases h2 with h | ⟨p,h,hp,hd⟩
   ·exact .inl h
   ·exact .inr ⟨p,h,by simp [hp],hd⟩
  ·intro j hj hd
   simp only [Bool.or_eq_true,beq_iff_eq] at hj
   rcases hj with hj | hj
   ·exact h3 j hj hd
   ·subst hj
    simp only [dstAt,hr.op,Option.bind_some] at hd
    exact absurd hd hs
  ·have : (a.put o.dst u).tmps.getD s undef = a.tmps.getD s undef := by
    cases hd : o.dst with
    | none => rfl
    | some d =>
     have : d ≠ s := fun e => hs (by rw [hd,e])
     simp only [Act.put,qy,Array.getElem?_setIfInBounds,if_neg this]
   rw [this]
   exact V_ext hE _ _ h4
theorem Inv.down' (I : Inv S lo n0 ops ρs Hs c0 H0 D tE c a) {i : Nat} {o : Oper} (hr : Ready ops D i o) : ∀ x o',ops[x]? = some o' → (D x || x == i) = true → ∀ e ∈ o'.after.toList,Region.binds .any e = true → (D e.on || e.on == i) = true := by
 intro x o' ho' hx e he hb
 simp only [Bool.or_eq_true,beq_iff_eq] at hx ⊢
 rcases hx with hx | hx
 ·exact .inl (I.down x o' ho' hx e he hb)
 ·subst hx
  rw [hr.op] at ho'
  cases ho'
  exact .inl (hr.pre e he hb)
theorem Inv.dlt' (I : Inv S lo n0 ops ρs Hs c0 H0 D tE c a) {i : Nat} {o : Oper} (hr : Ready ops D i o) : ∀ x,(D x || x == i) = true → x < ops.size := by
 intro x hx
 simp only [Bool.or_eq_true,beq_iff_eq] at hx
 rcases hx with hx | hx
 ·exact I.dlt x hx
 ·subst hx
  exact (Array.getElem?_eq_some_iff.1 hr.op).1
theorem put_size (a : Act) (d : Option Tmp) (v : Value) : (a.put d v).tmps.size = a.tmps.size := by cases d <;> simp [Act.put]
theorem HD_calm {i : Nat} (hn : newW S ops ρs i = false) : HD S ops ρs Hs n0 (fun x => D x || x == i) tE = HD S ops ρs Hs n0 D tE := by
 unfold HD
 apply List.map_congr_left
 intro b _
 by_cases hb : isN S ops ρs n0 b = true
 ·obtain ⟨_,h2⟩ := isN_spec hb
  have : (b - n0 == i) = false := by
   cases h : (b - n0 == i) with
   | false => rfl
   | true =>
    simp only [beq_iff_eq] at h
    rw [h,hn] at h2
    cases h2
  simp [this]
 ·simp only [Bool.not_eq_true] at hb
  simp [hb]
theorem Inv.calm (T : Tra S call lo n0 ops B reads touches ρs Hs) (I : Inv S lo n0 ops ρs Hs c0 H0 D tE c a) {i : Nat} {o : Oper} (hr : Ready ops D i o) (he : effAt ops i = false) (hn : newW S ops ρs i = false) {v : AVal} {u : Value} (hv : V c v u)
 (hρ : ρs (i + 1) = putA (ρs i) o.dst v) : Inv S lo n0 ops ρs Hs c0 H0 (fun x => D x || x == i) tE c (a.put o.dst u) where
 tEn := I.tEn
 eff := by
  intro j hj hje
  simp only [Bool.or_eq_true,beq_iff_eq] at hj
  rcases hj with hj | hj
  ·exact I.eff j hj hje
  ·subst hj; rw [he] at hje; cases hje
 last := by
  rcases I.last with h | ⟨p,h1,h2,h3⟩
  ·exact .inl h
  ·exact .inr ⟨p,h1,by simp [h2],h3⟩
 slots := I.slots' T hr (Ext.refl c) hv hρ
 size := by rw [put_size]; exact I.size
 rel := by rw [HD_calm hn]; exact I.rel
 tr := by rw [HD_calm hn]; exact I.tr
 low := by rw [HD_calm hn]; exact I.low
 undone := by
  intro m hm hD
  simp only [Bool.or_eq_false_iff] at hD
  exact I.undone m hm hD.1
 defers := by rw [put_defers]; exact I.defers
 down := I.down' hr
 dlt := I.dlt' hr
 glob := I.glob
 base := I.base
theorem Inv.seen (T : Tra S call lo n0 ops B reads touches ρs Hs) (I : Inv S lo n0 ops ρs Hs c0 H0 D tE c a) {i b : Nat} {o : Oper} {blk : ABlk} (hr : Ready ops D i o) (he : effAt ops i = false) (hn : newW S ops ρs i = false)
 (hread : (i,b) ∈ reads) (hlive : (Hs i)[b]? = some (some blk)) (hι : c.ι b ≠ none) : (HD S ops ρs Hs n0 D tE)[b]? = some (some blk) := by
 have hi : i < ops.size := (Array.getElem?_eq_some_iff.1 hr.op).1
 have hbE : b < (Hs tE).length := by
  rcases qm b (Hs tE).length with h | h
  ·exact h
  ·exact absurd (I.rel.fresh b (by rw [HD_length]; exact h)) hι
 have hbi : b < (Hs i).length := (List.getElem?_eq_some_iff.1 hlive).1
 have hND : isN S ops ρs n0 b = true → D (b - n0) = true ∧ b - n0 < i := by
  intro hN
  obtain ⟨h1,h2⟩ := isN_spec hN
  have hbe : n0 + (b - n0) = b := by omega
  have hDm : D (b - n0) = true := by
   cases h : D (b - n0) with
   | true => rfl
   | false => exact absurd (by have := I.undone _ h2 h; rwa [hbe] at this) hι
  refine ⟨hDm, ?_⟩
  rcases Nat.lt_trichotomy (b - n0) i with h | h | h
  ·exact h
  ·rw [h,hn] at h2; cases h2
  ·exfalso
   obtain ⟨hnew,hmlt⟩ := newW_new h2
   have hch := keep_chain' (Hs := Hs) (b := b) (p := i) (q := b - n0) (by omega) hbi (by
    intro j hj1 hj2
    by_cases hje : effAt ops j = true
    ·have := T.keep_hidden (j := j) (m := b - n0) (by omega) hje hmlt hnew (by
      cases hb : (B.getD j 0).testBit (b - n0) with
      | false => rfl
      | true => have := T.lt _ _ hb; omega)
     rwa [hbe] at this
    ·simp only [Bool.not_eq_true] at hje
     exact T.keep_calm (by omega) hje fun _ => by omega)
   have hom : ops[b - n0]? = some ops[b - n0] := by simp [hmlt]
   have hdead : (Hs (b - n0))[b]? = some none := by
    cases T.step _ _ hom with
    | skip hg _ _ =>
     simp [newW,hom,hg] at h2
    | new _ _ _ _ _ hd _ _ => rwa [hbe] at hd
    | eff _ h _ _ _ _ _ _ _ _ => simp [newAt,hom] at hnew; rw [hnew] at h; cases h
    | quiet _ h _ _ _ _ _ _ => simp [newAt,hom] at hnew; rw [hnew] at h; cases h
   rw [hch.1,hlive] at hdead
   cases hdead
 refine HD_live.2 ⟨hbE,fun hN => (hND hN).1, ?_⟩
 have far : ∀ j,j < ops.size → effAt ops j = true → (B.getD i 0).testBit j = false → (B.getD j 0).testBit i = false → Keep Hs j b := fun j h1 h2 h3 h4 => T.keep_far h1 h2 hread h3 h4
 have hτ : tE ≤ tm S ops ρs n0 tE b := by unfold tm; split <;> omega
 rcases qm i (tm S ops ρs n0 tE b) with hlt | hge
 ·have hτe : tm S ops ρs n0 tE b = tE := by
   unfold tm at hlt ⊢
   split
   ·rename_i hN
    rw [if_pos hN] at hlt
    have := (hND hN).2
    omega
   ·rfl
  rw [hτe] at hlt ⊢
  have hch := keep_chain' (Hs := Hs) (b := b) (p := i) (q := tE) (by omega) hbi (by
   intro j hj1 hj2
   have hjn : j < ops.size := by have := I.tEn; omega
   by_cases hje : effAt ops j = true
   ·have hji : j ≠ i := fun e => by rw [e,he] at hje; cases hje
    have hDj := I.effs T hj2 hje
    refine far j hjn hje ?_ (I.not_behind T hr hDj)
    cases hb : (B.getD i 0).testBit j with
    | false => rfl
    | true => have := T.lt _ _ hb; omega
   ·simp only [Bool.not_eq_true] at hje
    refine T.keep_calm hjn hje fun hnw hbj => ?_
    have hN : isN S ops ρs n0 b = true := by rw [hbj]; exact isN_of hnw
    have := (hND hN).2
    omega)
  rw [hch.1]
  exact hlive
 ·have hbτ : b < (Hs (tm S ops ρs n0 tE b)).length := qu hbE (T.mono _ hτ (by omega))
  have hch := keep_chain' (Hs := Hs) (b := b) (p := tm S ops ρs n0 tE b) (q := i) hge hbτ (by
   intro j hj1 hj2
   have hjn : j < ops.size := by omega
   by_cases hje : effAt ops j = true
   ·have hDj : D j = false := by
     cases h : D j with
     | false => rfl
     | true => have := I.eff j h hje; omega
    refine far j hjn hje ?_ ?_
    ·cases hb : (B.getD i 0).testBit j with
     | false => rfl
     | true => rw [hr.bit T.bits T.lt I.down hb] at hDj; cases hDj
    ·cases hb : (B.getD j 0).testBit i with
     | false => rfl
     | true => have := T.lt _ _ hb; omega
   ·simp only [Bool.not_eq_true] at hje
    refine T.keep_calm hjn hje fun hnw hbj => ?_
    have hN : isN S ops ρs n0 b = true := by rw [hbj]; exact isN_of hnw
    unfold tm at hj1
    rw [if_pos hN] at hj1
    omega)
  rw [← hch.1]
  exact hlive
end Go.Am

/- That a region whose order is open keeps to the idealised one, in whatever order: new blocks, effects, the whole. Generic: over any program. -/
namespace Go.Am
set_option linter.unusedVariables false
open Go.RowKit
variable {S : AStat} {call : CallF} {lo n0 : Nat} {ops : Array Oper} {B : List Nat} {reads : List (Nat × Nat)} {touches : List (Nat × Option (List Nat))} {ρs : Nat → List AVal} {Hs : Nat → Heap}
variable {c0 c : Cx} {H0 : Heap} {D : Nat → Bool} {tE : Nat} {a : Act}
theorem Inv.newStep (T : Tra S call lo n0 ops B reads touches ρs Hs) (I : Inv S lo n0 ops ρs Hs c0 H0 D tE c a) {i : Nat} {o : Oper} (hr : Ready ops D i o) (hn : newW S ops ρs i = true) {blk : ABlk} {mk : Nat → AVal}
 (hd : (Hs i)[n0 + i]? = some none) (hH : Hs (i + 1) = (Hs i).set (n0 + i) (some blk)) (hρ : ρs (i + 1) = putA (ρs i) o.dst (mk (n0 + i))) {obj : Obj} {u : Value}
 (hm : ∀ b,Ext c (c.put b c.w.heap.size 0 (c.w.alloc obj)) → BlkRel (c.put b c.w.heap.size 0 (c.w.alloc obj)) c.w.heap.size 0 blk ∧ V (c.put b c.w.heap.size 0 (c.w.alloc obj)) (mk b) u) :
 Inv S lo n0 ops ρs Hs c0 H0 (fun x => D x || x == i) tE (c.put (n0 + i) c.w.heap.size 0 (c.w.alloc obj)) (a.put o.dst u) := by
 have hi : i < ops.size := (Array.getElem?_eq_some_iff.1 hr.op).1
 obtain ⟨hnew,_⟩ := newW_new hn
 have he := new_not_eff hnew
 have hι := I.undone i hn hr.not
 have hw := T.wide i hi hnew
 have hlenE : n0 + i < (Hs tE).length := qu hw (T.mono _ (Nat.zero_le _) I.tEn)
 have hlive : (HD S ops ρs Hs n0 (fun x => D x || x == i) tE)[n0 + i]? = some (some blk) := by
  refine HD_live.2 ⟨hlenE,fun _ => by simp, ?_⟩
  have hτ : tm S ops ρs n0 tE (n0 + i) = max tE (i + 1) := by
   unfold tm
   rw [if_pos (isN_of hn)]
   congr 2
   omega
  rw [hτ]
  have hb1 : n0 + i < (Hs (i + 1)).length := by
   rw [hH,qz]
   exact (List.getElem?_eq_some_iff.1 hd).1
  have h1 : (Hs (i + 1))[n0 + i]? = some (some blk) := by
   rw [hH,qh,if_pos rfl,if_pos (List.getElem?_eq_some_iff.1 hd).1]
  have htE := I.tEn
  have hch := keep_chain' (Hs := Hs) (b := n0 + i) (p := i + 1) (q := max tE (i + 1)) (by omega) hb1 (by
   intro j hj1 hj2
   have hjn : j < ops.size := by omega
   by_cases hje : effAt ops j = true
   ·exact T.keep_hidden hjn hje hi hnew (I.not_behind T hr (I.effs T (by omega) hje))
   ·simp only [Bool.not_eq_true] at hje
    exact T.keep_calm hjn hje fun _ => by omega)
  rw [hch.1]
  exact h1
 have hadd := I.rel.add (H' := HD S ops ρs Hs n0 (fun x => D x || x == i) tE) (n0 + i) obj blk hι (by rw [HD_length]; exact hlenE) (by rw [HD_length,HD_length]; exact qf _) (by
  intro x y hxy
  by_cases hx : x = n0 + i
  ·subst hx
   rw [hlive] at hxy
   simp only [qa] at hxy
   exact .inl ⟨rfl,hxy.symm⟩
  ·refine .inr ⟨hx, ?_⟩
   obtain ⟨g1,g2,g3⟩ := HD_live.1 hxy
   refine HD_live.2 ⟨g1,fun hN => ?_,g3⟩
   have := g2 hN
   obtain ⟨h5,_⟩ := isN_spec hN
   simp only [Bool.or_eq_true,beq_iff_eq] at this
   rcases this with h | h
   ·exact h
   ·omega) (fun hE => (hm _ hE).1)
 refine ⟨I.tEn, ?_, ?_,I.slots' T hr hadd.2.ext (hm _ hadd.2.ext).2 hρ,by rw [put_size]; exact I.size,hadd.1,I.tr.trans hadd.2, ?_, ?_,by rw [put_defers]; exact I.defers,I.down' hr,I.dlt' hr,I.glob.ext hadd.2.ext,I.base⟩
 ·intro j hj hje
  simp only [Bool.or_eq_true,beq_iff_eq] at hj
  rcases hj with hj | hj
  ·exact I.eff j hj hje
  ·subst hj; rw [he] at hje; cases hje
 ·rcases I.last with h | ⟨p,h1,h2,h3⟩
  ·exact .inl h
  ·exact .inr ⟨p,h1,by simp [h2],h3⟩
 ·-- the new number may be known to nobody ahead of the region
  refine ⟨?_, ?_,Nat.le_trans I.low.len (by rw [HD_length,HD_length]; exact qf _)⟩
  ·intro b blk' hb hH0
   obtain ⟨h1,h2⟩ := I.low.low b blk' hb hH0
   obtain ⟨B',base',h3,_,h4,_⟩ := I.rel.blk b blk' h1
   refine ⟨?_,fun B base hi' => ?_⟩
   ·obtain ⟨g1,g2,g3⟩ := HD_live.1 h1
    exact HD_live.2 ⟨g1,fun hN => by simp [g2 hN],g3⟩
   ·have h5 := h2 B base hi'
    have h6 := I.tr.ext.ι b _ hi'
    rw [h3] at h6
    simp only [qa,qe] at h6
    obtain ⟨rfl,rfl⟩ := h6
    rw [← h5]
    exact Below.heap_alloc _ _ _ h4
  ·intro b hb h
   have := I.base
   simp only [Cx.put]
   rw [if_neg (by omega)]
   exact I.low.dom b hb h
 ·intro m hm' hD
  simp only [Bool.or_eq_false_iff,beq_eq_false_iff_ne] at hD
  simp only [Cx.put]
  rw [if_neg (by omega)]
  exact I.undone m hm' hD.1
theorem Inv.still (T : Tra S call lo n0 ops B reads touches ρs Hs) (_I : Inv S lo n0 ops ρs Hs c0 H0 D tE c a) {q : Nat} (hq : q ≤ ops.size) (hle : tE ≤ q) (hno : ∀ k,k < q → effAt ops k = true → k < tE) :
 (Hs q).length = (Hs tE).length ∧ ∀ b t,tE ≤ t → t ≤ q → b < (Hs tE).length → (isN S ops ρs n0 b = true → b - n0 < t) → (Hs q)[b]? = (Hs t)[b]? := by
 have hcalm : ∀ j,tE ≤ j → j < q → effAt ops j = false := by
  intro j h1 h2
  cases h : effAt ops j with
  | false => rfl
  | true => have := hno j h2 h; omega
 refine ⟨?_, ?_⟩
 ·have := T.calm_len (q - tE) tE (by omega) fun j h1 h2 => hcalm j h1 (by omega)
  rwa [show tE + (q - tE) = q by omega] at this
 ·intro b t ht1 ht2 hb hN
  have hbt : b < (Hs t).length := qu hb (T.mono _ ht1 (by omega))
  refine (keep_chain' (Hs := Hs) (b := b) ht2 hbt fun j h1 h2 => T.keep_calm (by omega) (hcalm j (by omega) h2) fun hnw hbj => ?_).1
  have hNb : isN S ops ρs n0 b = true := by rw [hbj]; exact isN_of hnw
  have := hN hNb
  omega
theorem Inv.skipEff (T : Tra S call lo n0 ops B reads touches ρs Hs) (I : Inv S lo n0 ops ρs Hs c0 H0 D tE c a) {i : Nat} {o : Oper} (hr : Ready ops D i o) (he : effAt ops i = true) (hH : Hs (i + 1) = Hs i) {v : AVal} {u : Value} (hv : V c v u)
 (hρ : ρs (i + 1) = putA (ρs i) o.dst v) (hlo : lo ≤ n0) : Inv S lo n0 ops ρs Hs c0 H0 (fun x => D x || x == i) (i + 1) c (a.put o.dst u) := by
 have hi : i < ops.size := (Array.getElem?_eq_some_iff.1 hr.op).1
 obtain ⟨hle,hno⟩ := I.next T hr he
 obtain ⟨hlen,hst⟩ := I.still T (by omega) hle hno
 have hni : newW S ops ρs i = false := by
  cases h : newW S ops ρs i with
  | false => rfl
  | true => rw [new_not_eff (newW_new h).1] at he; cases he
 have hD : ∀ b,isN S ops ρs n0 b = true → ((D (b - n0) || (b - n0) == i) = true ↔ D (b - n0) = true) := by
  intro b hN
  obtain ⟨_,h2⟩ := isN_spec hN
  simp only [Bool.or_eq_true,beq_iff_eq]
  exact ⟨fun h => h.resolve_right fun e => (by rw [e,hni] at h2; cases h2),.inl⟩
 have same : ∀ b,b < (Hs tE).length → (isN S ops ρs n0 b = true → D (b - n0) = true) → (Hs (tm S ops ρs n0 (i + 1) b))[b]? = (Hs (tm S ops ρs n0 tE b))[b]? := by
  intro b hb _
  unfold tm
  split
  ·rename_i hN
   rcases Nat.lt_trichotomy (b - n0) i with h | h | h
   ·rw [show max (i + 1) (b - n0 + 1) = i + 1 by omega,hH]
    exact hst b _ (by omega) (by omega) hb (fun _ => by omega)
   ·obtain ⟨_,h2⟩ := isN_spec hN
    rw [h,hni] at h2
    cases h2
   ·rw [show max (i + 1) (b - n0 + 1) = b - n0 + 1 by omega,show max tE (b - n0 + 1) = b - n0 + 1 by omega]
  ·rename_i hN
   rw [hH]
   exact hst b tE (qf _) hle hb (fun h => absurd h hN)
 have liv : ∀ (b : Nat) (blk : ABlk),(HD S ops ρs Hs n0 (fun x => D x || x == i) (i + 1))[b]? = some (some blk) ↔ (HD S ops ρs Hs n0 D tE)[b]? = some (some blk) := by
  intro b blk
  rw [HD_live,HD_live]
  have hl2 : (Hs (i + 1)).length = (Hs tE).length := by rw [hH,hlen]
  rw [hl2]
  constructor
  ·rintro ⟨h1,h2,h3⟩
   have h2' : isN S ops ρs n0 b = true → D (b - n0) = true := fun hN => (hD b hN).1 (h2 hN)
   exact ⟨h1,h2',by rw [← same b h1 h2']; exact h3⟩
  ·rintro ⟨h1,h2,h3⟩
   exact ⟨h1,fun hN => (hD b hN).2 (h2 hN),by rw [same b h1 h2]; exact h3⟩
 have hl3 : (HD S ops ρs Hs n0 D tE).length = (HD S ops ρs Hs n0 (fun x => D x || x == i) (i + 1)).length := by rw [HD_length,HD_length,hH,hlen]
 refine ⟨by omega, ?_,.inr ⟨i,rfl,by simp,he⟩,I.slots' T hr (Ext.refl c) hv hρ,by rw [put_size]; exact I.size,I.rel.sub (fun b blk h => (liv b blk).1 h) (by omega),
  I.tr.trans (Tr.sub fun b blk h => (liv b blk).1 h), ?_, ?_,by rw [put_defers]; exact I.defers,I.down' hr,I.dlt' hr,I.glob,I.base⟩
 ·intro j hj hje
  simp only [Bool.or_eq_true,beq_iff_eq] at hj
  rcases hj with hj | hj
  ·have := I.eff j hj hje
   omega
  ·omega
 ·exact ⟨fun b blk hb h => ⟨(liv b blk).2 (I.low.low b blk hb h).1,(I.low.low b blk hb h).2⟩,I.low.dom,by have := I.low.len; omega⟩
 ·intro m hm hDm
  simp only [Bool.or_eq_false_iff] at hDm
  exact I.undone m hm hDm.1
theorem Inv.effStep (T : Tra S call lo n0 ops B reads touches ρs Hs) (I : Inv S lo n0 ops ρs Hs c0 H0 D tE c a) {i : Nat} {o : Oper} (hr : Ready ops D i o) (he : effAt ops i = true) (hlo : lo ≤ n0) :
 Rel c (hide (Hs i) (hidden ops B n0 i)) ∧ ∀ (v : AVal) (u : Value) (H1 : Heap) (c' : Cx),Hs (i + 1) = unhide (Hs i) H1 (hidden ops B n0 i) → ρs (i + 1) = putA (ρs i) o.dst v →
  Rel c' H1 → Tr c (hide (Hs i) (hidden ops B n0 i)) c' H1 → Low lo c (hide (Hs i) (hidden ops B n0 i)) c' H1 → V c' v u →
  Inv S lo n0 ops ρs Hs c0 H0 (fun x => D x || x == i) (i + 1) c' (a.put o.dst u) := by
 have hi : i < ops.size := (Array.getElem?_eq_some_iff.1 hr.op).1
 obtain ⟨hle,hno⟩ := I.next T hr he
 obtain ⟨hlen,hst⟩ := I.still T (by omega) hle hno
 have hni : newW S ops ρs i = false := by
  cases h : newW S ops ρs i with
  | false => rfl
  | true => rw [new_not_eff (newW_new h).1] at he; cases he
 -- what the effect sees is there
 have sub : ∀ (b : Nat) (blk : ABlk),(hide (Hs i) (hidden ops B n0 i))[b]? = some (some blk) → b ∉ hidden ops B n0 i ∧ (Hs i)[b]? = some (some blk) ∧ (HD S ops ρs Hs n0 D tE)[b]? = some (some blk) := by
  intro b blk h
  rw [hide_get] at h
  split at h
  ·cases h
  ·rename_i hnh
   have hbl : b < (Hs i).length := (List.getElem?_eq_some_iff.1 h).1
   have hnh' : b ∉ hidden ops B n0 i := fun e => hnh ⟨e,hbl⟩
   refine ⟨hnh',h, ?_⟩
   have hbE : b < (Hs tE).length := by omega
   have hND : isN S ops ρs n0 b = true → D (b - n0) = true ∧ b - n0 < i := by
    intro hN
    obtain ⟨h1,h2⟩ := isN_spec hN
    obtain ⟨h3,h4⟩ := newW_new h2
    have hbit : (B.getD i 0).testBit (b - n0) = true := by
     cases hb : (B.getD i 0).testBit (b - n0) with
     | true => rfl
     | false => exact absurd (mem_hidden.2 ⟨b - n0,h4,h3,hb,by omega⟩) hnh'
    exact ⟨hr.bit T.bits T.lt I.down hbit,T.lt _ _ hbit⟩
   refine HD_live.2 ⟨hbE,fun hN => (hND hN).1, ?_⟩
   rw [← hst b (tm S ops ρs n0 tE b) (by unfold tm; split <;> omega) (by
    unfold tm
    split
    ·rename_i hN; have := (hND hN).2; omega
    ·exact hle) hbE (by intro hN; unfold tm; rw [if_pos hN]; omega)]
   exact h
 have hlen2 : (hide (Hs i) (hidden ops B n0 i)).length = (HD S ops ρs Hs n0 D tE).length := by rw [hide_length,HD_length,hlen]
 refine ⟨I.rel.sub (fun b blk h => (sub b blk h).2.2) (by omega), ?_⟩
 intro v u H1 c' hH hρ hR' hT' hL' hv
 -- each live block behind the effect is one of the effect's, or one out of its sight
 have liv : ∀ (b : Nat) (blk : ABlk),(HD S ops ρs Hs n0 (fun x => D x || x == i) (i + 1))[b]? = some (some blk) →
  (b ∉ hidden ops B n0 i ∧ H1[b]? = some (some blk)) ∨ (b ∈ hidden ops B n0 i ∧ (HD S ops ρs Hs n0 D tE)[b]? = some (some blk)) := by
  intro b blk h
  obtain ⟨h1,h2,h3⟩ := HD_live.1 h
  have hl1 : (Hs (i + 1)).length = H1.length := by rw [hH,unhide_length]
  have hND : isN S ops ρs n0 b = true → D (b - n0) = true ∧ b - n0 ≠ i := by
   intro hN
   obtain ⟨_,h5⟩ := isN_spec hN
   have hne : b - n0 ≠ i := fun e => by rw [e,hni] at h5; cases h5
   have := h2 hN
   simp only [Bool.or_eq_true,beq_iff_eq] at this
   exact ⟨this.resolve_right hne,hne⟩
  by_cases hh : b ∈ hidden ops B n0 i
  ·refine .inr ⟨hh, ?_⟩
   obtain ⟨j,hj1,hj2,hj3,rfl⟩ := mem_hidden.1 hh
   have hbE : n0 + j < (Hs tE).length := qu (T.wide j hj1 hj2) (T.mono _ (Nat.zero_le _) I.tEn)
   refine HD_live.2 ⟨hbE,fun hN => (hND hN).1, ?_⟩
   have back : (Hs (i + 1))[n0 + j]? = (Hs i)[n0 + j]? := by
    rw [hH,unhide_get,if_pos ⟨hh,by omega⟩,qi,qt (by omega)]
    rfl
   rw [← h3]
   unfold tm
   split
   ·rename_i hN
    have hji : n0 + j - n0 = j := by omega
    rw [hji] at *
    obtain ⟨_,hne⟩ := hND hN
    rw [hji] at hne
    rcases qm j i with hlt | hge
    ·rw [show max (i + 1) (j + 1) = i + 1 by omega,back]
     exact (hst _ _ (by omega) (by omega) hbE (fun _ => by omega)).symm
    ·rw [show max (i + 1) (j + 1) = j + 1 by omega,show max tE (j + 1) = j + 1 by omega]
   ·rename_i hN
    rw [back]
    exact (hst _ tE (qf _) hle hbE (fun h => absurd h hN)).symm
  ·refine .inl ⟨hh, ?_⟩
   have hτ : tm S ops ρs n0 (i + 1) b = i + 1 := by
    unfold tm
    split
    ·rename_i hN
     obtain ⟨hDm,hne⟩ := hND hN
     obtain ⟨g1,g2⟩ := isN_spec hN
     obtain ⟨g3,g4⟩ := newW_new g2
     have hbit : (B.getD i 0).testBit (b - n0) = true := by
      cases hb : (B.getD i 0).testBit (b - n0) with
      | true => rfl
      | false => exact absurd (mem_hidden.2 ⟨b - n0,g4,g3,hb,by omega⟩) hh
     have := T.lt _ _ hbit
     omega
    ·rfl
   rw [hτ,hH,unhide_get,if_neg (fun e => hh e.1)] at h3
   exact h3
 -- what is out of the effect's sight has not turned
 have far : ∀ (b : Nat) (blk : ABlk),b ∈ hidden ops B n0 i → (HD S ops ρs Hs n0 D tE)[b]? = some (some blk) → ∃ B' base,c.ι b = some (B',base) ∧ ¬ c.I B' ∧ B' < c.w.heap.size ∧ BlkRel c B' base blk ∧ ¬ Img c (hide (Hs i) (hidden ops B n0 i)) B' := by
  intro b blk hb h
  obtain ⟨B',base,h1,h2,h3,h4⟩ := I.rel.blk b blk h
  refine ⟨B',base,h1,h2,h3,h4, ?_⟩
  rintro ⟨b2,blk2,base2,h5,h6⟩
  obtain ⟨g1,_,g2⟩ := sub b2 blk2 h5
  have := I.rel.inj b b2 blk blk2 B' base base2 h g2 h1 h6
  subst this
  exact g1 hb
 have hl1 : (Hs (i + 1)).length = H1.length := by rw [hH,unhide_length]
 have hrel : Rel c' (HD S ops ρs Hs n0 (fun x => D x || x == i) (i + 1)) := by
  refine ⟨?_, ?_, ?_,hR'.lt⟩
  ·intro b blk h
   rcases liv b blk h with ⟨_,h1⟩ | ⟨h1,h2⟩
   ·exact hR'.blk b blk h1
   ·obtain ⟨B',base,g1,g2,g3,g4,g5⟩ := far b blk h1 h2
    refine ⟨B',base,hT'.ext.ι _ _ g1, ?_,qu g3 hT'.size,g4.ext hT'.ext (hT'.frame B' g3 g5)⟩
    intro hI
    rcases hT'.imm B' g3 hI with h | h
    ·exact g2 h
    ·exact g5 h
  ·intro b b' blk blk' B' base base' h h' hi1 hi2
   rcases liv b blk h with ⟨g0,g1⟩ | ⟨g0,g1⟩ <;> rcases liv b' blk' h' with ⟨k0,k1⟩ | ⟨k0,k1⟩
   ·exact hR'.inj b b' blk blk' B' base base' g1 k1 hi1 hi2
   ·obtain ⟨B2,base2,f1,f2,f3,f4,f5⟩ := far b' blk' k0 k1
    rw [hT'.ext.ι _ _ f1] at hi2
    simp only [qa,qe] at hi2
    obtain ⟨rfl,rfl⟩ := hi2
    exact absurd (hT'.img B2 f3 ⟨b,blk,base,g1,hi1⟩) f5
   ·obtain ⟨B2,base2,f1,f2,f3,f4,f5⟩ := far b blk g0 g1
    rw [hT'.ext.ι _ _ f1] at hi1
    simp only [qa,qe] at hi1
    obtain ⟨rfl,rfl⟩ := hi1
    exact absurd (hT'.img B2 f3 ⟨b',blk',base',k1,hi2⟩) f5
   ·obtain ⟨B2,base2,f1,_⟩ := far b blk g0 g1
    obtain ⟨B3,base3,f2,_⟩ := far b' blk' k0 k1
    rw [hT'.ext.ι _ _ f1] at hi1
    rw [hT'.ext.ι _ _ f2] at hi2
    simp only [qa,qe] at hi1 hi2
    obtain ⟨rfl,rfl⟩ := hi1
    obtain ⟨rfl,rfl⟩ := hi2
    exact I.rel.inj b b' blk blk' _ _ _ g1 k1 f1 f2
  ·intro b hb
   rw [HD_length,hl1] at hb
   exact hR'.fresh b hb
 have imgs : ∀ X,Img c (hide (Hs i) (hidden ops B n0 i)) X → Img c (HD S ops ρs Hs n0 D tE) X := by
  rintro X ⟨b,blk,base,h1,h2⟩
  exact ⟨b,blk,base,(sub b blk h1).2.2,h2⟩
 have htr : Tr c (HD S ops ρs Hs n0 D tE) c' (HD S ops ρs Hs n0 (fun x => D x || x == i) (i + 1)) := by
  refine ⟨hT'.ext,hT'.size,fun X hX hn => hT'.frame X hX fun h => hn (imgs X h), ?_, ?_,hT'.os,hT'.tape,hT'.output⟩
  ·rintro X hX ⟨b,blk,base,h1,h2⟩
   rcases liv b blk h1 with ⟨_,g1⟩ | ⟨g0,g1⟩
   ·exact imgs X (hT'.img X hX ⟨b,blk,base,g1,h2⟩)
   ·obtain ⟨B2,base2,f1,_⟩ := far b blk g0 g1
    rw [hT'.ext.ι _ _ f1] at h2
    simp only [qa,qe] at h2
    obtain ⟨rfl,rfl⟩ := h2
    exact ⟨b,blk,base2,g1,f1⟩
  ·intro X hX h
   rcases hT'.imm X hX h with h | h
   ·exact .inl h
   ·exact .inr (imgs X h)
 have hlow : Low lo c (HD S ops ρs Hs n0 D tE) c' (HD S ops ρs Hs n0 (fun x => D x || x == i) (i + 1)) := by
  refine ⟨?_, ?_, ?_⟩
  ·intro b blk hb h
   obtain ⟨g1,g2,g3⟩ := HD_live.1 h
   have hbn : b < n0 := by omega
   have hN : isN S ops ρs n0 b = false := by simp [isN]; omega
   have hτ : ∀ t,tm S ops ρs n0 t b = t := fun t => by simp [tm,hN]
   rw [hτ] at g3
   have hnh : b ∉ hidden ops B n0 i := by
    intro hm
    obtain ⟨j,_,_,_,hj⟩ := mem_hidden.1 hm
    omega
   have hIi : (hide (Hs i) (hidden ops B n0 i))[b]? = some (some blk) := by
    rw [hide_get,if_neg (fun e => hnh e.1),hst b tE (qf _) hle g1 (fun h => by rw [hN] at h; cases h)]
    exact g3
   obtain ⟨h5,h6⟩ := hL'.low b blk hb hIi
   refine ⟨HD_live.2 ⟨?_,fun h => (by rw [hN] at h; cases h), ?_⟩,h6⟩
   ·rw [hl1]
    exact (List.getElem?_eq_some_iff.1 h5).1
   ·rw [hτ,hH,unhide_get,if_neg (fun e => hnh e.1)]
    exact h5
  ·intro b hb h
   exact hL'.dom b (by omega) h
  ·rw [HD_length,HD_length,hl1]
   have := hL'.len
   rw [hide_length] at this
   omega
 refine ⟨by omega, ?_,.inr ⟨i,rfl,by simp,he⟩,I.slots' T hr hT'.ext hv hρ,by rw [put_size]; exact I.size,hrel,I.tr.trans htr,I.low.trans I.tr.ext hlow, ?_,by rw [put_defers]; exact I.defers,I.down' hr,I.dlt' hr,I.glob.ext hT'.ext,I.base⟩
 ·intro j hj hje
  simp only [Bool.or_eq_true,beq_iff_eq] at hj
  rcases hj with hj | hj
  ·have := I.eff j hj hje
   omega
  ·omega
 ·intro m hm hDm
  simp only [Bool.or_eq_false_iff] at hDm
  obtain ⟨h3,h4⟩ := newW_new hm
  refine hL'.dom _ ?_ (I.undone m hm hDm.1)
  rw [hide_length]
  exact qu (T.wide m h4 h3) (T.mono _ (Nat.zero_le _) (by omega))
end Go.Am

/- That a region whose order is open keeps to the idealised one, in whatever order: the whole. Generic: over any program. -/
namespace Go.Am
set_option linter.unusedVariables false
open Go.RowKit
variable {S : AStat} {call : CallF} {lo n0 : Nat} {ops : Array Oper} {B : List Nat} {reads : List (Nat × Nat)} {touches : List (Nat × Option (List Nat))} {ρs : Nat → List AVal} {Hs : Nat → Heap}
variable {c0 c : Cx} {H0 : Heap}
theorem quiet_eff {S : AStat} {ρ : List AVal} {H : Heap} {op : Op} (h : isEffB op = true) : quietA S ρ H op = none ∧ newA S ρ op = none := by
 cases op <;> simp only [isEffB] at h <;> first
  | (cases h; done)
  | exact ⟨rfl,rfl⟩
  | (rename_i cl
     obtain ⟨callee,args,ts⟩ := cl
     cases callee with
     | value f => exact ⟨rfl,rfl⟩
     | invoke r m => exact ⟨rfl,rfl⟩
     | builtin b => cases b <;> first | exact ⟨rfl,rfl⟩ | (simp at h; done))
theorem reads_dom {S : AStat} {c : Cx} {ρ : List AVal} {a : Act} {op : Op} {b : Nat} (hev : EvOn S c ρ a op.operands) (h : readsA S ρ op = some b) : c.ι b ≠ none := by
 have key : ∀ x ∈ op.operands,blkOf (evalA S ρ x) = some b → c.ι b ≠ none := by
  intro x hx hb
  have := hev x hx
  cases he : evalA S ρ x <;> rw [he] at hb this <;> simp only [blkOf,qa] at hb <;> first | (cases hb; done) | skip
  ·subst hb
   simp only [V] at this
   obtain ⟨B,base,h1,_⟩ := this
   rw [h1]; simp
  ·subst hb
   simp only [V] at this
   obtain ⟨B,h1,_⟩ := this
   rw [h1]; simp
 unfold readsA at h
 split at h
 ·exact key _ (by simp [Op.operands]) h
 ·exact key _ (by simp [Op.operands]) h
 ·exact key _ (by simp [Op.operands]) h
 ·rename_i s d x
  have := hev x (by simp [Op.operands])
  cases he : evalA S ρ x <;> rw [he] at h this <;> simp only [slBlk,qa] at h <;> first | (cases h; done) | skip
  subst h
  simp only [V] at this
  obtain ⟨B,base,k,o,h1,_⟩ := this
  rw [h1]; simp
 ·split at h
  ·rename_i x hx
   split at h
   ·rename_i b' e
    refine key x (by simp [Op.operands,Call.operands]; exact Array.mem_of_getElem? hx) ?_
    rw [e]
    exact h
   ·cases h
  ·cases h
 ·cases h
theorem draw_step (hS : StatOk S) (hC : CallOk S call) (T : Tra S call lo n0 ops B reads touches ρs Hs) (hlo : lo ≤ n0) {D : Nat → Bool} {tE : Nat} {a : Act} (I : Inv S lo n0 ops ρs Hs c0 H0 D tE c a) {i : Nat} {o : Oper} (hr : Ready ops D i o)
 {K : Act → World → Prop} {Q : Exit → Act → World → Prop} (hK : ∀ tE' c' a',Inv S lo n0 ops ρs Hs c0 H0 (fun x => D x || x == i) tE' c' a' → K a' c'.w) : wpOp S.P ops Q i K a c.w := by
 have hev := I.evOn T hr
 unfold wpOp
 rw [hr.op]
 simp only
 cases T.step i o hr.op with
 | skip hg hρ hH =>
  have hw := I.guard T hr hg
  rw [if_neg (by rw [hw]; simp)]
  cases he : effAt ops i with
  | true => exact hK _ _ _ (I.skipEff T hr he hH (undef_V c) hρ hlo)
  | false =>
   have hn : newW S ops ρs i = false := by simp [newW,hr.op,hg]
   exact hK _ _ _ (I.calm T hr he hn (undef_V c) hρ)
 | new hg hnb blk mk hnew hd hρ hH =>
  have hw := I.guard T hr hg
  rw [if_pos hw]
  have hn : newW S ops ρs i = true := by simp [newW,hr.op,hg,hnb]
  obtain ⟨obj,u,h1,h2⟩ := (newA_sim o hev hnew).run
  refine .inl ?_
  unfold Oper.wp
  rw [h1]
  exact hK _ _ _ (I.newStep T hr hn hd hH hρ h2)
 | eff hg hnb heb v H1 heff hl hρ hH ht =>
  have hw := I.guard T hr hg
  rw [if_pos hw]
  have he : effAt ops i = true := by simp [effAt,hr.op,heb]
  obtain ⟨hR,hfin⟩ := I.effStep T hr he hlo
  refine .inl (opA_sim hS hC (lo := lo) hR I.glob o hev (v := v) (H' := H1) ?_ ?_)
  ·unfold opA
   obtain ⟨q1,q2⟩ := quiet_eff (S := S) (ρ := ρs i) (H := hide (Hs i) (hidden ops B n0 i)) heb
   rw [q1,q2]
   exact heff
  ·intro c' u g1 g2 g3 g4
   exact hK _ _ _ (hfin v u H1 c' hH hρ g1 g2 g3 g4)
 | quiet hg hnb heb v hq hρ hH hrd =>
  have hw := I.guard T hr hg
  rw [if_pos hw]
  have he : effAt ops i = false := by simp [effAt,hr.op,heb]
  have hn : newW S ops ρs i = false := by simp [newW,hr.op,hnb]
  have hq' : quietA S (ρs i) (HD S ops ρs Hs n0 D tE) o.op = some v := by
   rw [quiet_local (H := Hs i)]
   ·exact hq
   ·intro b hb
    obtain ⟨blk,hlive⟩ := quiet_live hq hb
    rw [I.seen T hr he hn (hrd b hb) hlive (reads_dom hev hb),hlive]
  obtain ⟨u,h1,h2⟩ := quietA_sim I.rel o hev hq'
  refine .inl ?_
  unfold Oper.wp
  rw [h1]
  exact hK _ _ _ (I.calm T hr he hn h2 hρ)
theorem count_set : ∀ (l : List Bool) (i : Nat),l[i]? = some false → ((l.set i true).filter id).length = (l.filter id).length + 1
 | [],i,h => by simp at h
 | b :: l,0,h => by
  simp at h
  subst h
  simp
 | b :: l,i + 1,h => by
  simp only [List.getElem?_cons_succ] at h
  simp only [List.set_cons_succ,List.filter_cons]
  split
  ·simp only [qn,count_set l i h]
  ·exact count_set l i h
theorem mem_ready {listed : Array Bool} {i : Nat} : i ∈ Region.ready .any ops listed ↔ ∃ o,ops[i]? = some o ∧ listed.getD i true = false ∧ ∀ e ∈ o.after.toList,Region.binds .any e = true → listed.getD e.on false = true := by
 unfold Region.ready
 rw [List.mem_filter,List.mem_range]
 constructor
 ·rintro ⟨h1,h2⟩
  obtain ⟨o,ho⟩ := op_at h1
  rw [ho] at h2
  simp only [qj,Bool.not_eq_true',Option.map_some,Option.getD_some,← Array.all_toList,List.all_eq_true,Bool.or_eq_true] at h2
  refine ⟨o,ho,h2.1,fun e he hb => ?_⟩
  rcases h2.2 e he with h | h
  ·rw [hb] at h; cases h
  ·exact h
 ·rintro ⟨o,ho,h1,h2⟩
  refine ⟨(Array.getElem?_eq_some_iff.1 ho).1, ?_⟩
  rw [ho]
  simp only [qj,Bool.not_eq_true',Option.map_some,Option.getD_some,← Array.all_toList,List.all_eq_true,Bool.or_eq_true]
  refine ⟨h1,fun e he => ?_⟩
  cases hb : Region.binds .any e with
  | false => exact .inl rfl
  | true => exact .inr (h2 e he hb)
theorem all_done (T : Tra S call lo n0 ops B reads touches ρs Hs) {listed : Array Bool} (hs : listed.size = ops.size) (h : Region.ready .any ops listed = []) : ∀ i,i < ops.size → listed.getD i false = true := by
 intro i
 induction i using Nat.strongRecOn with
 | _ i ih =>
  intro hi
  cases hl : listed.getD i false with
  | true => rfl
  | false =>
   obtain ⟨o,ho⟩ := op_at hi
   have : i ∈ Region.ready .any ops listed := by
    refine mem_ready.2 ⟨o,ho, ?_,fun e he hb => ?_⟩
    ·rw [qy] at hl ⊢
     rw [Array.getElem?_eq_getElem (by omega)] at hl ⊢
     exact hl
    ·have hlt := T.pair.edge i o ho e he hb
     exact ih e.on hlt (by omega)
   rw [h] at this
   cases this
theorem Vs_of_get {c : Cx} : ∀ {as : List AVal} {vs : List Value},as.length = vs.length → (∀ s,V c (as.getD s undefA) (vs.getD s undef)) → Vs c as vs
 | [],[],_,_ => by simp [Vs]
 | [],_ :: _,h,_ => by simp at h
 | _ :: _,[],h,_ => by simp at h
 | a :: as,v :: vs,h,hv => by
  simp only [Vs]
  exact ⟨v,vs,rfl,by simpa using hv 0,Vs_of_get (by simpa using h) fun s => by simpa using hv (s + 1)⟩
theorem Inv.done (T : Tra S call lo n0 ops B reads touches ρs Hs) {D : Nat → Bool} {tE : Nat} {a : Act} (I : Inv S lo n0 ops ρs Hs c0 H0 D tE c a) (hall : ∀ i,i < ops.size → D i = true) (hlo : lo ≤ n0) :
 Post lo c0 H0 .normal (ρs ops.size) (Hs ops.size) .normal a c.w := by
 have hno : ∀ k,k < ops.size → effAt ops k = true → k < tE := fun k hk he => I.eff k (hall k hk) he
 obtain ⟨hlen,hst⟩ := I.still T (qf _) I.tEn hno
 have hnlt : ∀ b,isN S ops ρs n0 b = true → b - n0 < ops.size := fun b hN => (newW_new (isN_spec hN).2).2
 have htEn := I.tEn
 have eqt : ∀ b,b < (Hs tE).length → (Hs (tm S ops ρs n0 tE b))[b]? = (Hs ops.size)[b]? := by
  intro b hb
  refine (hst b _ (by unfold tm; split <;> omega) ?_ hb ?_).symm
  ·unfold tm
   split
   ·rename_i hN; have := hnlt b hN; omega
   ·exact I.tEn
  ·intro hN
   unfold tm
   rw [if_pos hN]
   omega
 have liv : ∀ (b : Nat) (blk : ABlk),(Hs ops.size)[b]? = some (some blk) ↔ (HD S ops ρs Hs n0 D tE)[b]? = some (some blk) := by
  intro b blk
  rw [HD_live]
  constructor
  ·intro h
   have hb : b < (Hs tE).length := by have := (List.getElem?_eq_some_iff.1 h).1; omega
   exact ⟨hb,fun hN => hall _ (hnlt b hN),by rw [eqt b hb]; exact h⟩
  ·rintro ⟨h1,_,h3⟩
   rw [← eqt b h1]; exact h3
 have hl2 : (HD S ops ρs Hs n0 D tE).length = (Hs ops.size).length := by rw [HD_length,hlen]
 refine ⟨rfl,I.defers,c,rfl,I.rel.sub (fun b blk h => (liv b blk).1 h) (by omega),I.tr.trans (Tr.sub fun b blk h => (liv b blk).1 h), ?_, ?_⟩
 ·exact ⟨fun b blk hb h => ⟨(liv b blk).2 (I.low.low b blk hb h).1,(I.low.low b blk hb h).2⟩,I.low.dom,by have := I.low.len; omega⟩
 ·refine Vs_of_get ?_ ?_
  ·have h1 := T.len _ (qf _)
   have h2 := I.size
   have h3 : a.tmps.toList.length = a.tmps.size := Array.length_toList
   omega
  ·intro s
   obtain ⟨t,h1,h2,h3,h4⟩ := I.slots s
   have := T.slot s (ops.size - t) t (by omega) (fun j hj1 hj2 hd => by
    have := h3 j (hall j (by omega)) hd
    omega)
   rw [show t + (ops.size - t) = ops.size by omega] at this
   rw [this]
   simpa [qy,qi] using h4
theorem draw_any (hS : StatOk S) (hC : CallOk S call) (T : Tra S call lo n0 ops B reads touches ρs Hs) (hlo : lo ≤ n0) {Q : Exit → Act → World → Prop} (hQ : ∀ e a w,Post lo c0 H0 .normal (ρs ops.size) (Hs ops.size) e a w → Q e a w) :
 ∀ (fuel : Nat) (listed : Array Bool) (c : Cx) (a : Act) (tE : Nat),listed.size = ops.size → (listed.toList.filter id).length + fuel = ops.size → Inv S lo n0 ops ρs Hs c0 H0 (fun i => listed.getD i false) tE c a →
  wpAny S.P .any ops Q fuel listed a c.w
 | 0,listed,c,a,tE,hs,hc,I => by
  have hall : ∀ i,i < ops.size → listed.getD i false = true := by
   have : listed.toList.filter id = listed.toList := by
    refine (List.filter_sublist).eq_of_length ?_
    have h3 : listed.toList.length = listed.size := Array.length_toList
    omega
   intro i hi
   rw [List.filter_eq_self] at this
   have hm : listed[i] ∈ listed.toList := by simp
   have := this _ hm
   rw [qy,Array.getElem?_eq_getElem (by omega)]
   simpa using this
  refine ⟨?_,hQ _ _ _ (I.done T hall hlo)⟩
  cases hrd : Region.ready .any ops listed with
  | nil => rfl
  | cons i rest =>
   have : i ∈ Region.ready .any ops listed := by rw [hrd]; exact List.mem_cons_self ..
   obtain ⟨o,ho,h1,_⟩ := mem_ready.1 this
   have hi := (Array.getElem?_eq_some_iff.1 ho).1
   have := hall i hi
   rw [qy,Array.getElem?_eq_getElem (by omega)] at this h1
   simp only [Option.getD_some] at this h1
   rw [h1] at this
   cases this
 | fuel + 1,listed,c,a,tE,hs,hc,I => by
  refine ⟨fun hrd => hQ _ _ _ (I.done T (all_done T hs hrd) hlo), ?_⟩
  intro i hi
  obtain ⟨o,ho,h1,h2⟩ := mem_ready.1 hi
  have hin := (Array.getElem?_eq_some_iff.1 ho).1
  have hlf : listed[i]? = some false := by
   rw [qy,Array.getElem?_eq_getElem (by omega)] at h1
   simp only [Option.getD_some] at h1
   rw [Array.getElem?_eq_getElem (by omega),h1]
  have hr : Ready ops (fun i => listed.getD i false) i o := ⟨ho,by simp [qy,hlf],h2⟩
  refine draw_step hS hC T hlo I hr ?_
  intro tE' c' a' I'
  refine draw_any hS hC T hlo hQ fuel _ c' a' tE' (by simp [hs]) ?_ ?_
  ·rw [Array.toList_setIfInBounds,count_set _ _ (by simpa using hlf)]
   omega
  ·have : (fun x => (listed.setIfInBounds i true).getD x false) = (fun x => listed.getD x false || x == i) := by
    funext x
    simp only [qy,Array.getElem?_setIfInBounds]
    by_cases hx : i = x
    ·subst hx
     rw [if_pos rfl,if_pos (by omega)]
     simp
    ·rw [if_neg hx]
     have : (x == i) = false := by simp; omega
     simp [this]
   rw [this]
   exact I'
theorem drawA_sim (hS : StatOk S) (hC : CallOk S call) (hst : CallStill S call) {id : Nat} {ops : Array Oper} {ρ ρ' : List AVal} {H H' : Heap} {a : Act} (h : drawA S call lo ops ρ H = some (ρ',H')) (hR : Rel c H) (hG : GlobOk S c) (hρ : Vs c ρ a.tmps.toList) (hd : a.defers = []) :
 (Code.region id ops true).wp S.P (Post lo c H .normal ρ' H') a c.w := by
 unfold drawA at h
 simp only at h
 split at h
 case isFalse => cases h
 rename_i hok
 simp only [qj,decide_eq_true_eq] at hok
 obtain ⟨hok,hlo⟩ := hok
 split at h
 ·cases h
 ·rename_i r hgo
  split at h
  case isFalse => cases h
  rename_i hap
  simp only [qa,qe] at h
  obtain ⟨rfl,rfl⟩ := h
  obtain ⟨ρs,Hs,e1,e2,e3,e4,hstep⟩ := drawGo_trace ops.toList 0 _ _ r hgo (fun j => by simp) (by simp)
  have hpair := regionOk_spec hok
  have hlen0 : H.length ≤ (Hs 0).length := by rw [e2]; split <;> simp
  have T : Tra S call lo H.length ops (befs ops.toList []) r.reads r.touches ρs Hs := by
   refine ⟨fun j o ho => hstep j o (Nat.zero_le _) ho,hpair,befs_ok ops,fun i k hk => befs_lt hpair.edge ops.toList [] (fun j => by simp) (fun i k h => by simp at h) i k hk,hap,hst, ?_⟩
   intro m hm hn
   have hany : ops.any (fun o => isNewB o.op) = true := by
    rw [Array.any_eq_true]
    refine ⟨m,hm, ?_⟩
    simpa [newAt,hm] using hn
   rw [e2,if_pos hany]
   simp
   exact hm
  -- nothing that lives at first is new
  have hliv0 : ∀ (b : Nat) (blk : ABlk),(Hs 0)[b]? = some (some blk) ↔ H[b]? = some (some blk) := by
   intro b blk
   rw [e2]
   split
   ·rcases qm b H.length with h1 | h1
    ·rw [qg h1]
    ·rw [qk h1,qr h1,List.getElem?_replicate]
     split <;> simp
   ·exact Iff.rfl
  have hfr : ∀ m,c.ι (H.length + m) = none := fun m => hR.fresh _ (by omega)
  let c1 : Cx := { c with w := c.w.drew }
  have hdr := hR.drew
  have hliv : ∀ (b : Nat) (blk : ABlk),(HD S ops ρs Hs H.length (fun _ => false) 0)[b]? = some (some blk) ↔ H[b]? = some (some blk) := by
   intro b blk
   rw [HD_live]
   constructor
   ·rintro ⟨_,h2,h3⟩
    have hN : isN S ops ρs H.length b = false := by
     cases h : isN S ops ρs H.length b with
     | false => rfl
     | true => have := h2 h; cases this
    have : tm S ops ρs H.length 0 b = 0 := by simp [tm,hN]
    rw [this] at h3
    exact (hliv0 b blk).1 h3
   ·intro hb
    have hbl : b < H.length := (List.getElem?_eq_some_iff.1 hb).1
    have hN : isN S ops ρs H.length b = false := by simp [isN]; omega
    have : tm S ops ρs H.length 0 b = 0 := by simp [tm,hN]
    rw [this]
    exact ⟨by omega,fun h => (by rw [hN] at h; cases h),(hliv0 b blk).2 hb⟩
  have hHDl : (HD S ops ρs Hs H.length (fun _ => false) 0).length = (Hs 0).length := HD_length _ _
  have I : Inv S lo H.length ops ρs Hs c H (fun _ => false) 0 c1 a := by
   refine ⟨Nat.zero_le _,(fun j hj => by cases hj),.inl rfl, ?_, ?_, ?_, ?_, ?_,fun m _ _ => hfr m,hd,(fun i o _ hi => by cases hi),(fun i hi => by cases hi),hG.ext hdr.2.ext,qf _⟩
   ·intro s
    refine ⟨0,Nat.zero_le _,.inl rfl,(fun j hj => by cases hj), ?_⟩
    rw [e1]
    have := Vs_getD (Vs_ext hdr.2.ext _ _ hρ) s
    simpa [qy,qi] using this
   ·rw [e1]
    have := Vs_length hρ
    simpa using this.symm
   ·exact hdr.1.sub (fun b blk h => (hliv b blk).1 h) (by omega)
   ·exact hdr.2.trans (Tr.sub fun b blk h => (hliv b blk).1 h)
   ·exact ⟨fun b blk _ h => ⟨(hliv b blk).2 h,fun _ _ _ => rfl⟩,fun _ _ h => h,by omega⟩
  refine wp_region_any hS.mixed ?_
  have hfun : (fun i => (Array.replicate ops.size false).getD i false) = (fun _ => false) := by
   funext i
   simp only [qy,Array.getElem?_replicate]
   split <;> rfl
  refine draw_any (c0 := c) (H0 := H) hS hC T hlo (fun e a w hp => ?_) ops.size _ c1 a 0 (by simp) (by simp) (by rw [hfun]; exact I)
  rw [e3,e4] at hp
  exact hp
end Go.Am

/- That the model's run keeps to the idealised one: code and calls. Generic: over any program. -/
namespace Go.Am
open Go.RowKit
theorem opsA_sim {S : AStat} (hS : StatOk S) {call : CallF} (hC : CallOk S call) {lo : Nat} {ops : Array Oper} {Q : Exit → Act → World → Prop} :
 ∀ (l : List Oper) {ρ : List AVal} {H : Heap} {ρ' : List AVal} {H' : Heap} {c : Cx} {a : Act},opsA S call lo ops.toList l ρ H = some (ρ',H') → Rel c H → GlobOk S c → Vs c ρ a.tmps.toList → a.defers = [] →
  (∀ e a' w',Post lo c H .normal ρ' H' e a' w' → Q e a' w') → wpList S.P ops Q l a c.w
 | [],ρ,H,ρ',H',c,a,h,hR,hG,hρ,hd,hQ => by
  simp only [opsA,qa,qe] at h
  obtain ⟨rfl,rfl⟩ := h
  exact hQ _ _ _ ⟨rfl,hd,c,rfl,hR,Tr.refl _ _,Low.refl _ _ _,hρ⟩
 | o :: l,ρ,H,ρ',H',c,a,h,hR,hG,hρ,hd,hQ => by
  simp only [opsA] at h
  split at h
  ·cases h
  ·rename_i hg
   have hw := guardA_sim hg hρ
   simp only [wpList]
   rw [if_neg (by rw [hw]; simp)]
   exact opsA_sim hS hC l h hR hG (putA_Vs hρ o.dst (undef_V c)) (by rw [put_defers]; exact hd) hQ
  ·rename_i hg
   have hw := guardA_sim hg hρ
   simp only [wpList]
   rw [if_pos hw]
   split at h
   ·cases h
   ·rename_i v H1 hop
    refine .inl (opA_sim hS hC hR hG o (fun x _ => evalA_V hG hρ x) hop ?_)
    intro c' u h1 h2 h3 h4
    refine opsA_sim hS hC l h h1 (hG.ext h2.ext) (putA_Vs (Vs_ext h2.ext _ _ hρ) o.dst h4) (by rw [put_defers]; exact hd) ?_
    intro e a' w' hp
    exact hQ e a' w' (hp.trans h2 h3)
def Cx.pop (c : Cx) (H : Heap) (n0 n : Nat) : Cx :=
 { c with
  ι := fun b => if b < n then c.ι b else none
  I := fun B => c.I B ∨ ∃ b blk base,n0 ≤ b ∧ H[b]? = some (some blk) ∧ c.ι b = some (B,base) }
theorem pop_pure (c : Cx) (H : Heap) (n0 n : Nat) : (c.pop H n0 n).pure = c.pop H n0 0 := by
 simp [Cx.pop,Cx.pure]
theorem pure_pop (c : Cx) (H : Heap) (n0 n : Nat) : Ext c.pure (c.pop H n0 n).pure :=
 ⟨(fun _ _ h => by cases h),rfl,(fun _ h => .inl h),fun _ _ => rfl,fun _ _ _ h => h⟩
theorem frzs_sim {f : AVal → Option AVal} {c c' : Cx} (hf : ∀ a b,f a = some b → ∀ v,V c a v → V c' b v) : ∀ (as : List AVal) {bs : List AVal},frzs f as = some bs → ∀ vs,Vs c as vs → Vs c' bs vs
 | [],bs,h,vs,hv => by
  simp only [frzs,qa] at h
  subst h
  simpa [Vs] using hv
 | a :: as,bs,h,vs,hv => by
  simp only [frzs] at h
  split at h
  ·cases h
  ·rename_i b hb
   split at h
   ·cases h
   ·rename_i bs' hbs
    simp only [qa] at h
    subst h
    simp only [Vs] at hv ⊢
    obtain ⟨v,us,rfl,h1,h2⟩ := hv
    exact ⟨v,us,rfl,hf a b hb v h1,frzs_sim hf as hbs us h2⟩
theorem frzss_sim {f : AVal → Option AVal} {c c' : Cx} (hf : ∀ a b,f a = some b → ∀ v,V c a v → V c' b v) (sz : Nat) : ∀ (rs : List (List AVal)) {bs : List (List AVal)},frzss f rs = some bs → bs.length = rs.length ∧ ∀ vs,Vss c sz rs vs → Vss c' sz bs vs
 | [],bs,h => by
  simp only [frzss,qa] at h
  subst h
  exact ⟨rfl,fun vs hv => by simpa [Vss] using hv⟩
 | a :: as,bs,h => by
  simp only [frzss] at h
  split at h
  ·cases h
  ·rename_i b hb
   split at h
   ·cases h
   ·rename_i bs' hbs
    simp only [qa] at h
    subst h
    obtain ⟨h3,h4⟩ := frzss_sim hf sz as hbs
    refine ⟨by simp [h3],fun vs hv => ?_⟩
    simp only [Vss] at hv ⊢
    obtain ⟨us,ws,rfl,hl,h1,h2⟩ := hv
    exact ⟨us,ws,rfl,hl,frzs_sim hf a hb us h1,h4 ws h2⟩
def topN (n0 : Nat) (top : Bool) : Nat := if top then n0 else 0
theorem frz_sim {c : Cx} {H : Heap} (hR : Rel c H) (n0 : Nat) : ∀ (k : Nat) (top : Bool) (a : AVal) {b : AVal},frz n0 H top k a = some b → ∀ v,V c a v → V (c.pop H n0 (topN n0 top)) b v
 | 0,_,_,_,h,_,_ => by cases h
 | k + 1,top,a,b,h,v,hv => by
  have ih := fun a b h v hv => frz_sim hR n0 k top a (b := b) h v hv
  have ih0 := fun a b h v hv => frz_sim hR n0 k false a (b := b) h v hv
  have pure0 : c.pop H n0 (topN n0 false) = (c.pop H n0 (topN n0 top)).pure := (pop_pure c H n0 (topN n0 top)).symm
  rw [pure0] at ih0
  have old : ∀ x B base,x < n0 → top = true → c.ι x = some (B,base) → (c.pop H n0 (topN n0 top)).ι x = some (B,base) := by
   intro x B base h1 h2 h3
   subst h2
   simp only [Cx.pop,topN]
   rw [if_pos (by simpa using h1)]
   exact h3
  unfold frz at h
  cases a <;> simp only at h
  case agg cs =>
   rw [qd] at h
   obtain ⟨bs,h1,rfl⟩ := h
   simp only [V] at hv ⊢
   obtain ⟨vs,rfl,h2⟩ := hv
   exact ⟨vs,rfl,frzs_sim ih cs h1 vs h2⟩
  case tup cs =>
   rw [qd] at h
   obtain ⟨bs,h1,rfl⟩ := h
   simp only [V] at hv ⊢
   obtain ⟨vs,rfl,h2⟩ := hv
   exact ⟨vs,rfl,frzs_sim ih cs h1 vs h2⟩
  case iface t x =>
   rw [qd] at h
   obtain ⟨y,h1,rfl⟩ := h
   simp only [V] at hv ⊢
   obtain ⟨u,rfl,h2⟩ := hv
   exact ⟨u,rfl,ih x y h1 u h2⟩
  case fn f x y =>
   split at h
   ·rename_i x' y' h1 h2
    simp only [qa] at h
    subst h
    simp only [V] at hv ⊢
    obtain ⟨vs,us,rfl,h3,h4⟩ := hv
    exact ⟨vs,us,rfl,frzs_sim ih x h1 vs h3,frzs_sim ih y h2 us h4⟩
   ·cases h
  case ptr x off =>
   simp only [V] at hv
   obtain ⟨B,base,hi,rfl⟩ := hv
   split at h
   ·rename_i hlt
    split at h
    ·rename_i ht
     simp only [qa] at h
     subst h
     simp only [V]
     exact ⟨B,base,old x B base hlt ht hi,rfl⟩
    ·cases h
   ·rename_i hlt
    split at h
    ·rename_i cs hb
     rw [qd] at h
     obtain ⟨bs,h1,rfl⟩ := h
     obtain ⟨B0,base0,h3,_,_,_,_,vs,ha,hvs⟩ := hR.blk x _ hb
     rw [hi] at h3
     simp only [qa,qe] at h3
     obtain ⟨rfl,rfl⟩ := h3
     simp only [V]
     exact ⟨B,base + off,vs.drop off,rfl,.inr ⟨x,_,base,by omega,hb,hi⟩,At_drop off ha,frzs_sim ih0 _ h1 _ (Vs_drop off hvs)⟩
    ·cases h
  case sl sz x off len cap ex =>
   simp only [V] at hv
   obtain ⟨B,base,kk,o,hi,rfl,ho,g1,g2,g3,g4⟩ := hv
   split at h
   ·rename_i hlt
    split at h
    ·rename_i ht
     simp only [qa] at h
     subst h
     simp only [V]
     exact ⟨B,base,kk,o,old x B base hlt ht hi,rfl,ho,g1,g2,g3,g4⟩
    ·cases h
   ·rename_i hlt
    split at h
    ·rename_i cs hb
     split at h
     ·rename_i hle
      rw [qd] at h
      obtain ⟨bs,h1,rfl⟩ := h
      obtain ⟨B0,base0,h3,_,_,_,_,vs,ha,hvs⟩ := hR.blk x _ hb
      rw [hi] at h3
      simp only [qa,qe] at h3
      obtain ⟨rfl,rfl⟩ := h3
      have hl := Vs_length hvs
      have hch := chunk_Vss (sz := sz) len (Vs_drop off hvs) (by simp; omega)
      obtain ⟨h5,h6⟩ := frzss_sim ih0 sz _ h1
      rw [chunk_length] at h5
      have hIx : (c.pop H n0 (topN n0 top)).I B := .inr ⟨x,_,base,by omega,hb,hi⟩
      simp only [V,h5]
      by_cases hk : 0 < kk
      ·have ho' := ho hk
       subst ho'
       refine ⟨⟨B,base + off,none⟩,kk,_,rfl,by omega, ?_,.inr ⟨rfl,hIx,At_take _ (At_drop off ha)⟩,h6 _ hch⟩
       intro he
       simp only [qj,beq_iff_eq] at he
       have := g3 he.1
       omega
      ·have hl0 : len = 0 := by omega
       subst hl0
       have hbs : bs = [] := qq h5
       subst hbs
       exact ⟨⟨B,o,none⟩,kk,[],rfl,by omega,(fun _ => by omega),.inl rfl,by simp [Vss]⟩
     ·cases h
    ·cases h
  case mapr x =>
   split at h
   ·rename_i hlt
    simp only [qa] at h
    subst h
    simp only [V] at hv ⊢
    obtain ⟨B,h1,rfl⟩ := hv
    exact ⟨B,old x B 0 hlt.1 hlt.2 h1,rfl⟩
   ·cases h
  case ipt cs =>
   simp only [qa] at h
   subst h
   simp only [V] at hv ⊢
   obtain ⟨B,off,vs,rfl,hI,ha,hvs⟩ := hv
   exact ⟨B,off,vs,rfl,.inl hI,ha,Vs_ext (pure_pop c H n0 _) _ _ hvs⟩
  case eptr id cs =>
   simp only [qa] at h
   subst h
   simp only [V] at hv ⊢
   obtain ⟨B,o,vs,hn,e1,rfl,hI,ha,hvs,hc⟩ := hv
   exact ⟨B,o,vs,hn,e1,rfl,.inl hI,ha,Vs_ext (pure_pop c H n0 _) _ _ hvs,hc⟩
  case list sz rows ex =>
   simp only [qa] at h
   subst h
   simp only [V] at hv ⊢
   obtain ⟨a,cap,vs,rfl,h1,h2,hm,hvs⟩ := hv
   exact ⟨a,cap,vs,rfl,h1,h2,hm.imp_right fun h => ⟨h.1,.inl h.2.1,h.2.2⟩,Vss_ext (pure_pop c H n0 _) _ _ _ hvs⟩
  all_goals (simp only [qa] at h; subst h)
  all_goals (simp only [V] at hv ⊢)
  all_goals exact hv
theorem pop_sim {lo : Nat} {c c' : Cx} {H H' : Heap} (hR : Rel c H) (hR' : Rel c' H') (hT : Tr c H c' H') (hL : Low H.length c H c' H') :
 Rel (c'.pop H' H.length H.length) H ∧ Tr c H (c'.pop H' H.length H.length) H ∧ Low lo c H (c'.pop H' H.length H.length) H := by
 have hlen : ∀ (b : Nat) (blk : ABlk),H[b]? = some (some blk) → b < H.length := by
  intro b blk h
  rcases qm b H.length with h1 | h1
  ·exact h1
  ·rw [qr h1] at h; cases h
 have hι : ∀ b x,c.ι b = some x → (c'.pop H' H.length H.length).ι b = some x := by
  intro b x h
  have : b < H.length := by
   rcases qm b H.length with h1 | h1
   ·exact h1
   ·rw [hR.fresh b h1] at h; cases h
  simp only [Cx.pop]
  rw [if_pos this]
  exact hT.ext.ι b x h
 have hE : Ext c (c'.pop H' H.length H.length) := ⟨hι,hT.ext.θ,fun B hB => .inl (hT.ext.I B hB),hT.ext.kept,hT.ext.shape⟩
 have hιback : ∀ b blk,H[b]? = some (some blk) → ∀ x,(c'.pop H' H.length H.length).ι b = some x → c.ι b = some x := by
  intro b blk hb x h
  obtain ⟨B,base,h1,_⟩ := hR.blk b blk hb
  rw [hι b _ h1] at h
  rw [h1,h]
 refine ⟨⟨?_, ?_, ?_, ?_⟩,⟨hE,hT.size,hT.frame, ?_, ?_,hT.os,hT.tape,hT.output⟩,⟨?_, ?_,qf _⟩⟩
 ·intro b blk hb
  obtain ⟨B,base,h1,h2,h3,h4⟩ := hR.blk b blk hb
  obtain ⟨h5,h6⟩ := hL.low b blk (hlen b blk hb) hb
  refine ⟨B,base,hι b _ h1, ?_,qu h3 hT.size,h4.ext hE (h6 B base h1)⟩
  rintro (hi | ⟨x,y,base',hx,hy,hxi⟩)
  ·obtain ⟨B2,base2,h7,h8,_⟩ := hR'.blk b blk h5
   rw [hT.ext.ι b _ h1] at h7
   simp only [qa,qe] at h7
   obtain ⟨rfl,rfl⟩ := h7
   exact h8 hi
  ·have := hR'.inj b x blk y B base base' h5 hy (hT.ext.ι b _ h1) hxi
   have := hlen b blk hb
   omega
 ·intro b b' blk blk' B base base' h1 h2 h3 h4
  exact hR.inj b b' blk blk' B base base' h1 h2 (hιback b blk h1 _ h3) (hιback b' blk' h2 _ h4)
 ·intro b hb
  simp only [Cx.pop]
  rw [if_neg (by omega)]
 ·intro B hB
  rcases hB with hB | ⟨b,blk,base,_,h1,h2⟩
  ·exact hR'.lt B hB
  ·obtain ⟨B',base',h3,_,h4,_⟩ := hR'.blk b blk h1
   rw [h2] at h3
   simp only [qa,qe] at h3
   obtain ⟨rfl,rfl⟩ := h3
   exact h4
 ·rintro B _ ⟨b,blk,base,h1,h2⟩
  exact ⟨b,blk,base,h1,hιback b blk h1 _ h2⟩
 ·rintro B hB (hi | ⟨b,blk,base,_,h1,h2⟩)
  ·exact hT.imm B hB hi
  ·exact .inr (hT.img B hB ⟨b,blk,base,h1,h2⟩)
 ·intro b blk _ hb
  obtain ⟨_,h6⟩ := hL.low b blk (hlen b blk hb) hb
  exact ⟨hb,h6⟩
 ·intro b hb h
  simp only [Cx.pop]
  rw [if_pos hb]
  exact hL.dom b hb h
theorem resultA_sim {S : AStat} {c : Cx} {H : Heap} {ρ : List AVal} {tmps : Array Value} (hR : Rel c H) (hρ : Vs c ρ tmps.toList) : ∀ (r : ResultVar) {v : AVal},resultA S ρ H r = some v →
 ∃ u,(match r with | .tmp t => pure (tmps.getD t undef) | .cell a t => do loadVar t (← asAddr (tmps.getD a undef)) : Sem Value).run S.P c.w = .ok u c.w ∧ V c v u := by
 have hget : ∀ t,V c (ρ.getD t undefA) (tmps.getD t undef) := by
  intro t
  have := Vs_getD hρ t
  simpa [qy,List.getD] using this
 intro r v h
 cases r with
 | tmp t =>
  simp only [resultA,qa] at h
  subst h
  exact ⟨_,rfl,hget t⟩
 | cell a t =>
  simp only [resultA] at h
  have hl := h
  unfold loadA at h
  rw [Option.bind_eq_some_iff] at h
  obtain ⟨cs,h1,h2⟩ := h
  obtain ⟨B,o,vs,e,ha,hvs⟩ := atA_sim hR h1 (hget a)
  obtain ⟨u,h3,h4⟩ := run_loadVar (P := S.P) h2 hvs ha
  exact ⟨u,by simp only [e,asAddr,Sem.run_bind,Sem.run_pure,Result.andThen_ok,h3],h4⟩
theorem resultsA_sim {S : AStat} {c : Cx} {H : Heap} {ρ : List AVal} {tmps : Array Value} (hR : Rel c H) (hρ : Vs c ρ tmps.toList) : ∀ (rs : List ResultVar) {vs : List AVal},resultsA S ρ H rs = some vs →
 ∃ us,(rs.mapM (fun | .tmp t => pure (tmps.getD t undef) | .cell a t => do loadVar t (← asAddr (tmps.getD a undef))) : Sem (List Value)).run S.P c.w = .ok us c.w ∧ Vs c vs us
 | [],vs,h => by
  simp only [resultsA,qa] at h
  subst h
  exact ⟨[],rfl,by simp [Vs]⟩
 | r :: rs,vs,h => by
  simp only [resultsA] at h
  split at h
  ·cases h
  ·rename_i v hv
   split at h
   ·cases h
   ·rename_i vs' hvs
    simp only [qa] at h
    subst h
    obtain ⟨u,h1,h2⟩ := resultA_sim hR hρ r hv
    obtain ⟨us,h3,h4⟩ := resultsA_sim hR hρ rs hvs
    refine ⟨u :: us, ?_,by simp only [Vs]; exact ⟨_,_,rfl,h2,h4⟩⟩
    rw [List.mapM_cons]
    simp only [Sem.run_bind,h1,h3,Result.andThen_ok,Sem.run_pure]
theorem results_sim {S : AStat} {c : Cx} {H : Heap} {ρ : List AVal} {tmps : Array Value} (hR : Rel c H) (hρ : Vs c ρ tmps.toList) (fn : Func) {vs : List AVal} (h : resultsA S ρ H fn.results.toList = some vs) :
 ∃ u,(results fn tmps).run S.P c.w = .ok u c.w ∧ V c (tupled vs) u := by
 obtain ⟨us,h1,h2⟩ := resultsA_sim hR hρ _ h
 have hl := Vs_length h2
 refine ⟨if h : us.toArray.size = 1 then us.toArray[0] else .tuple us.toArray, ?_, ?_⟩
 ·unfold results
  rw [Array.mapM_eq_mapM_toList]
  simp only [Sem.run_bind,Sem.run_map]
  erw [h1]
  rfl
 ·unfold tupled
  split
  ·rename_i v
   simp only [Vs] at h2
   obtain ⟨u,_,rfl,h3,rfl⟩ := h2
   simpa using h3
  ·rename_i hne
   have : ¬ us.toArray.size = 1 := by
    intro e
    simp only [List.size_toArray] at e
    match vs,hl,hne with
    | [v],_,hne => exact hne v rfl
    | [],hl,_ => simp at hl; omega
    | _ :: _ :: _,hl,_ => simp at hl; omega
   rw [dif_neg this]
   simp only [V]
   exact ⟨us,rfl,h2⟩
theorem callA_ok {S : AStat} (hS : StatOk S) {K : Nat} {rec : ExecF} (hE : ExecOk S K rec) : CallOk S (callA S rec) := by
 intro lo f args H r H' h c vs hR hG hvs
 unfold callA at h
 split at h
 ·rename_i hk hhk
  exact hS.hook f hk hhk lo args H r H' h c vs hR hG hvs
 ·split at h
  ·cases h
  ·rename_i fn hf
   split at h
   ·cases h
   ·rename_i body hb
    refine ⟨⟨fn,hf,by simp [hb]⟩, ?_⟩
    refine calls_of_wp hf hb ?_
    have hlen := Vs_length hvs
    have hargs : Vs c (args ++ List.replicate (fn.ntmps - args.length) undefA) (vs.toArray ++ Array.replicate (fn.ntmps - vs.toArray.size) undef).toList := by
     have : (vs.toArray ++ Array.replicate (fn.ntmps - vs.toArray.size) undef).toList = vs ++ List.replicate (fn.ntmps - args.length) undef := by
      simp [hlen]
     rw [this]
     exact Vs_append hvs (Vs_replicate (undef_V c) _)
    split at h
    ·cases h
    ·cases h
    ·rename_i x ρ H1 hne hrec
     have hwp := (hE _ _ _ _ _ _ _ hrec c { tmps := vs.toArray ++ Array.replicate (fn.ntmps - vs.toArray.size) undef,defers := [] } hR hG hargs rfl).1
     refine wp_mono hwp ?_
     rintro e a' w' ⟨he,hd,c',rfl,h1,h2,h3,h4⟩
     split at h
     ·cases h
     ·rename_i rs hrs
      obtain ⟨u,h5,h6⟩ := results_sim h1 h4 fn hrs
      have fin : ∃ c'',c''.w = c'.w ∧ Rel c'' H' ∧ Tr c H c'' H' ∧ Low lo c H c'' H' ∧ V c'' r u := by
       unfold finish at h
       split at h
       ·rename_i hp
        simp only [qa,qe] at h
        obtain ⟨rfl,rfl⟩ := h
        rw [hp] at h3
        exact ⟨c',rfl,h1,h2,h3,h6⟩
       ·rename_i hp
        rw [qd] at h
        obtain ⟨v',h7,h8⟩ := h
        simp only [qe] at h8
        obtain ⟨rfl,rfl⟩ := h8
        rw [hp] at h3
        obtain ⟨g1,g2,g3⟩ := pop_sim (lo := lo) hR h1 h2 h3
        exact ⟨c'.pop H1 H.length H.length,rfl,g1,g2,g3,frz_sim h1 H.length 64 true _ h7 u h6⟩
       ·rename_i hp
        simp only [qa,qe] at h
        obtain ⟨rfl,rfl⟩ := h
        rw [hp] at h3
        exact ⟨c',rfl,h1,h2,h3.mono (by simp only [Pol.lo]; omega),h6⟩
      obtain ⟨c'',hw,g1,g2,g3,g4⟩ := fin
      subst he
      cases x with
      | normal => exact ⟨hd,u,h5,u,c'',rfl,hw,g1,g2,g3,g4⟩
      | ret => exact ⟨hd,u,h5,u,c'',rfl,hw,g1,g2,g3,g4⟩
      | exit id => exact (hne _ rfl).elim
theorem rounds_mono {P : Program} {b : Code} {Q Q' : Exit → Act → World → Prop} (hq : ∀ e a w,Q e a w → Q' e a w) : ∀ (k : Nat) {a : Act} {w : World},Code.rounds P b Q k a w → Code.rounds P b Q' k a w
 | 0,_,_,h => h
 | k + 1,a,w,h => by
  refine wp_mono h ?_
  intro e a' w' he
  cases e with
  | normal => exact rounds_mono hq k he
  | _ => exact hq _ _ _ he
theorem stepA_ok {S : AStat} (hS : StatOk S) {K : Nat} {rec : ExecF} (hL : RecLow rec) (hE : ExecOk S K rec) : ExecOk S (K + 1) (stepA S rec) := by
 intro lo code ρ H x ρ' H' h c a hR hG hρ hd
 have here : Post lo c H .normal ρ H .normal a c.w := ⟨rfl,hd,c,rfl,hR,Tr.refl _ _,Low.refl _ _ _,hρ⟩
 unfold stepA at h
 split at h
 ·simp only [qa,qe] at h
  obtain ⟨rfl,rfl,rfl⟩ := h
  exact ⟨wp_skip here,(fun b e => by cases e)⟩
 ·simp only [qa,qe] at h
  obtain ⟨rfl,rfl,rfl⟩ := h
  exact ⟨wp_label here,(fun b e => by cases e)⟩
 ·simp only [qa,qe] at h
  obtain ⟨rfl,rfl,rfl⟩ := h
  exact ⟨wp_ret ⟨rfl,hd,c,rfl,hR,Tr.refl _ _,Low.refl _ _ _,hρ⟩,(fun b e => by cases e)⟩
 ·rename_i id
  simp only [qa,qe] at h
  obtain ⟨rfl,rfl,rfl⟩ := h
  exact ⟨wp_exit ⟨rfl,hd,c,rfl,hR,Tr.refl _ _,Low.refl _ _ _,hρ⟩,(fun b e => by cases e)⟩
 ·rename_i p q
  refine ⟨?_,(fun b e => by cases e)⟩
  split at h
  ·rename_i ρ1 H1 h1
   refine wp_seq (wp_mono (hE _ _ _ _ _ _ _ h1 c a hR hG hρ hd).1 ?_)
   rintro e a1 w1 ⟨rfl,hd1,c1,rfl,g1,g2,g3,g4⟩
   exact wp_mono (hE _ _ _ _ _ _ _ h c1 a1 g1 (hG.ext g2.ext) g4 hd1).1 fun e a' w' hp => hp.trans g2 g3
  ·rename_i hne
   refine wp_seq (wp_mono (hE _ _ _ _ _ _ _ h c a hR hG hρ hd).1 ?_)
   rintro e a1 w1 hp
   obtain ⟨he,hp2⟩ := hp
   cases x with
   | normal => exact (hne _ _ h).elim
   | exit id => subst he; exact ⟨rfl,hp2⟩
   | ret => subst he; exact ⟨rfl,hp2⟩
 ·rename_i cnd p q
  refine ⟨?_,(fun b e => by cases e)⟩
  have hc := evalA_V hG hρ cnd
  split at h
  ·rename_i e
   rw [e] at hc
   simp only [V] at hc
   exact wp_cond_true hc (hE _ _ _ _ _ _ _ h c a hR hG hρ hd).1
  ·rename_i e
   rw [e] at hc
   simp only [V] at hc
   exact wp_cond_false hc (hE _ _ _ _ _ _ _ h c a hR hG hρ hd).1
  ·cases h
 ·rename_i id p
  refine ⟨?_,(fun b e => by cases e)⟩
  split at h
  ·rename_i i ρ1 H1 h1
   refine wp_block (wp_mono (hE _ _ _ _ _ _ _ h1 c a hR hG hρ hd).1 ?_)
   rintro e a1 w1 ⟨rfl,hp⟩
   simp only [AExit.toExit,Exit.inBlock]
   split at h
   ·rename_i hi
    simp only [qa,qe] at h
    obtain ⟨rfl,rfl,rfl⟩ := h
    rw [if_pos hi]
    exact ⟨rfl,hp⟩
   ·rename_i hi
    simp only [qa,qe] at h
    obtain ⟨rfl,rfl,rfl⟩ := h
    rw [if_neg hi]
    exact ⟨rfl,hp⟩
  ·rename_i hne
   refine wp_block (wp_mono (hE _ _ _ _ _ _ _ h c a hR hG hρ hd).1 ?_)
   rintro e a1 w1 ⟨rfl,hp⟩
   cases x with
   | normal => exact ⟨rfl,hp⟩
   | exit id => exact (hne _ _ _ h).elim
   | ret => exact ⟨rfl,hp⟩
 ·rename_i p
  have main : Code.rounds S.P p (Post lo c H x ρ' H') (K + 1) a c.w := by
   split at h
   ·rename_i ρ1 H1 h1
    refine wp_mono (hE _ _ _ _ _ _ _ h1 c a hR hG hρ hd).1 ?_
    rintro e a1 w1 ⟨rfl,hd1,c1,rfl,g1,g2,g3,g4⟩
    exact rounds_mono (fun e a' w' hp => hp.trans g2 g3) K ((hE _ _ _ _ _ _ _ h c1 a1 g1 (hG.ext g2.ext) g4 hd1).2 p rfl)
   ·rename_i hne
    refine wp_mono (hE _ _ _ _ _ _ _ h c a hR hG hρ hd).1 ?_
    rintro e a1 w1 ⟨rfl,hp⟩
    cases x with
    | normal => exact (hne _ _ h).elim
    | exit id => exact ⟨rfl,hp⟩
    | ret => exact ⟨rfl,hp⟩
  refine ⟨wp_loop_rounds (K + 1) main,fun b e => ?_⟩
  cases e
  exact main
 ·rename_i id ops draw
  refine ⟨?_,(fun b e => by cases e)⟩
  split at h
  ·rename_i hd1
   subst hd1
   rw [qd] at h
   obtain ⟨⟨ρ1,H1⟩,h1,h2⟩ := h
   simp only [qe] at h2
   obtain ⟨rfl,rfl,rfl⟩ := h2
   exact drawA_sim hS (callA_ok hS hE) (callA_still S hL) h1 hR hG hρ hd
  ·rename_i hd0
   rw [qd] at h
   obtain ⟨⟨ρ1,H1⟩,h1,h2⟩ := h
   simp only [qe] at h2
   obtain ⟨rfl,rfl,rfl⟩ := h2
   have hdf : draw = false := by simpa using hd0
   subst hdf
   exact wp_region_list (opsA_sim hS (callA_ok hS hE) _ h1 hR hG hρ hd fun e a' w' hp => hp)
 ·cases h
theorem execA_ok {S : AStat} (hS : StatOk S) : ∀ n,ExecOk S n (execA S n)
 | 0 => fun lo code ρ H x ρ' H' h => by cases h
 | n + 1 => stepA_ok hS (execA_low (fun f hk h lo args H r H' e => hS.low f hk h lo args H r H' e) n) (execA_ok hS n)
theorem runA_ok {S : AStat} (hS : StatOk S) (n : Nat) : CallOk S (runA S n) := callA_ok hS (execA_ok hS n)
end Go.Am

/- The idealised run at the top of a claim: what it computes the model's call answers, and of what was there nothing turns. Generic: over any program. -/
namespace Go.Am
open Go.RowKit Go.ChangeShapes Go.WideShapes Go.ChangeAt
def cx0 (W : World) (θ : List (Nat × Nat) := []) : Cx := { ι := fun _ => none,θ := θ,I := fun B => B < W.heap.size,w := W }
theorem rel0 (W : World) (θ : List (Nat × Nat) := []) : Rel (cx0 W θ) [] where
 blk := fun b blk h => by simp at h
 inj := fun b b' blk blk' B base base' h => by simp at h
 fresh := fun _ _ => rfl
 lt := fun _ h => h
theorem tr0_below {W : World} {θ : List (Nat × Nat)} {c' : Cx} {H' : Heap} (h : Tr (cx0 W θ) [] c' H') : Go.RowKit.Below W.heap.size W c'.w where
 os := h.os
 tape := h.tape
 output := h.output
 size := h.size
 block := fun k hk => h.frame k hk (fun ⟨b,blk,base,hb,_⟩ => by simp at hb)
theorem law_calls {S : AStat} (hS : StatOk S) {W : World} {θ : List (Nat × Nat)} (hG : GlobOk S (cx0 W θ)) {n : Nat} {f : FuncId} {av : List AVal} {args : Array Value} (hv : Vs (cx0 W θ) av args.toList)
 {H' : Heap} (h : runA S n 0 f av [] = some (.bool true,H')) :
 Calls S.P f args W fun e w' => e = .returned (.bool true) ∧ Go.RowKit.Below W.heap.size W w' := by
 have := (runA_ok hS n 0 f av [] _ _ h (cx0 W θ) args.toList (rel0 W θ) hG hv).2
 rw [Array.toArray_toList] at this
 refine this.mono fun e w' hp => ?_
 obtain ⟨v,c',rfl,rfl,hR,hT,hL,hV⟩ := hp
 simp only [V] at hV
 subst hV
 exact ⟨rfl,tr0_below hT⟩
section
variable {H : Type} {enc : TypeId × Value → H} {P : Program}
theorem trodAll_below (hl : laidOutB P = true) {W W' : World} (hb : Go.RowKit.Below W.heap.size W W') :
 ∀ {ts : List TypeId} {vs : List Value} {ds : List (DataW H)} {ps : List MemPlace},(ts.all fun t => P.readableRec t && decide (t < P.types.size)) = true →
 DataW.TrodAll enc P W 0 (fun _ => true) true ts vs ds ps → (∀ x ∈ ps,x.block < W.heap.size) → ∀ sp : Nat → Bool,(∀ x ∈ ps,sp x.block = true) → DataW.TrodAll enc P W' 0 sp true ts vs ds ps
 | [],_,_,_,_,h,_,_,_ => by
  obtain ⟨rfl,rfl,rfl⟩ := trodAll_nil h
  exact trodAll_mk0
 | t :: ts,_,_,_,hr,h,hlt,sp,hsp => by
  obtain ⟨v,vs1,d,ds1,a,b,rfl,rfl,rfl,h1,h2⟩ := trodAll_cons h
  simp only [List.all_cons,qj,decide_eq_true_eq] at hr
  obtain ⟨⟨hr1,hr2⟩,hr3⟩ := hr
  refine ⟨a,b, ?_,trodAll_below hl hb hr3 h2 (fun x hx => hlt x (List.mem_append.2 (.inr hx))) sp (fun x hx => hsp x (List.mem_append.2 (.inr hx))),rfl⟩
  exact WideElems.Trod_stays hl hr1 hr2 h1 (fun x hx => hb.same (hlt x (List.mem_append.2 (.inl hx)))) (fun x hx => hsp x (List.mem_append.2 (.inl hx)))
theorem post_of_below (hl : laidOutB P = true) {f : Func} {s : ChangeSpec} {apart fresh handsOn again : Bool} {W W' : World} {args : Array Value} {ds gs : List (DataW H)} {before : List MemPlace}
 (hW : DataW.Whole enc P f.params.toList s.vars apart W args.toList ds gs before) (hb : Go.RowKit.Below W.heap.size W W')
 (hps : (f.params.toList.all fun t => P.readableRec t && decide (t < P.types.size)) = true) (hvs : s.vars = [])
 {tb : TypeId} (hrt : f.resultTypes = #[tb]) (htb : P.underlying tb = some .bool)
 (hs : s.fn H (ds ++ gs) = { results := [.lit (.bool true)],args := ds }) :
 s.post enc P f apart fresh handsOn again W args (.bool true) W' := by
 have hres : ∀ (b : Nat) (sp : Nat → Bool) (hd : Bool),DataW.TrodAll enc P W' b sp hd f.resultTypes.toList ((Value.bool true).resultList f.resultTypes.size) (s.fn H (ds ++ gs)).results [] := by
  intro b sp hd
  rw [hs,hrt]
  exact trodAll_cons_mk (shut_bool htb _) trodAll_mk0
 have hlt := hW.lt
 obtain ⟨p,q,hA,hV,hpq,hz,hn⟩ := id hW
 rw [hvs] at hV
 obtain ⟨rfl,rfl⟩ := trodVars_none hV
 simp only [List.append_nil] at hpq
 subst hpq
 have hargs : ∀ sp : Nat → Bool,(∀ x ∈ before,sp x.block = true) → DataW.TrodAll enc P W' 0 sp true f.params.toList args.toList (s.fn H (ds ++ [])).args before := by
  intro sp hsp
  rw [hs]
  exact trodAll_below hl hb hps hA hlt sp hsp
 have hvars : ∀ sp : Nat → Bool,DataW.TrodVars enc P W' sp s.vars (s.fn H (ds ++ [])).vars [] := by
  intro sp
  rw [hs,hvs]
  rfl
 have hold : ∀ x ∈ before,(fun b => decide (b < W.heap.size)) x.block = true := fun x hx => by simpa using hlt x hx
 refine ⟨ds,[],before,[],before,[],hW,hres _ _ _,hargs _ hold,hvars _,World.keptBut_mono (fun p hp => ⟨hp,Or.inr (by simpa using hp)⟩) (hb.frame (· ∈ before)),fun _ => ?_⟩
 refine ⟨ok_one hrt rfl (okWide_bool_mk htb _),_,_,([] ++ before) ++ [],⟨[] ++ before,[],trodAll_append (hargs _ (fun _ _ => rfl)) (hres _ _ _),hvars _,rfl, ?_, ?_⟩, ?_⟩
 ·intro b off hp
  have hp' : MemPlace.cell b off ∈ before := by simpa using hp
  rw [hb.frozen (hlt _ hp')]
  exact hz b off hp'
 ·intro ha
  simpa using hn ha
 ·intro x hx _
  simpa using hx
theorem law_contract {S : AStat} (hS : StatOk S) (hP : S.P = P) (hl : laidOutB P = true) {fid : FuncId} {f : Func} {s : ChangeSpec} {apart fresh handsOn again : Bool} {W : World} {args : Array Value} {ds gs : List (DataW H)} {before : List MemPlace}
 (hW : DataW.Whole enc P f.params.toList s.vars apart W args.toList ds gs before)
 (hps : (f.params.toList.all fun t => P.readableRec t && decide (t < P.types.size)) = true) (hvs : s.vars = [])
 {tb : TypeId} (hrt : f.resultTypes = #[tb]) (htb : P.underlying tb = some .bool)
 (hs : s.fn H (ds ++ gs) = { results := [.lit (.bool true)],args := ds })
 {θ : List (Nat × Nat)} (hG : GlobOk S (cx0 W θ)) {av : List AVal} (hv : Vs (cx0 W θ) av args.toList) {n : Nat} {H' : Heap} (h : runA S n 0 fid av [] = some (.bool true,H')) :
 Calls P fid args W fun e W' => ∃ v,e = .returned v ∧ s.post enc P f apart fresh handsOn again W args v W' := by
 subst hP
 refine (law_calls hS hG hv h).mono fun e W' ⟨he,hb⟩ => ?_
 subst he
 exact ⟨_,rfl,post_of_below hl hW hb hps hvs hrt htb hs⟩
end
end Go.Am

/- More fuel does not turn what the idealised run has come to; how runs are put together. Generic: over any program. -/
namespace Go.Am
def CLe (a b : CallF) : Prop := ∀ lo f av H r,a lo f av H = some r → b lo f av H = some r
def ELe (a b : ExecF) : Prop := ∀ lo c ρ H r,a lo c ρ H = some r → b lo c ρ H = some r
theorem effA_mono {S : AStat} {a b : CallF} (h : CLe a b) {lo : Nat} {ρ : List AVal} {H : Heap} {o : Op} {r : AVal × Heap} (e : effA S a lo ρ H o = some r) : effA S b lo ρ H o = some r := by
 unfold effA at e ⊢
 split at e
 all_goals first
  | exact e
  | (split at e <;> first | exact h _ _ _ _ _ e | (split at e <;> first | exact h _ _ _ _ _ e | exact e | cases e) | cases e)
  | cases e
theorem opA_mono {S : AStat} {a b : CallF} (h : CLe a b) {lo : Nat} {ρ : List AVal} {H : Heap} {o : Oper} {r : AVal × Heap} (e : opA S a lo ρ H o = some r) : opA S b lo ρ H o = some r := by
 unfold opA at e ⊢
 split
 ·simp_all
 ·split
  ·simp_all
  ·simp_all
   exact effA_mono h e
theorem opsA_mono {S : AStat} {a b : CallF} (h : CLe a b) {lo : Nat} {ops : List Oper} : ∀ {os : List Oper} {ρ : List AVal} {H : Heap} {r : List AVal × Heap},opsA S a lo ops os ρ H = some r → opsA S b lo ops os ρ H = some r
 | [],_,_,_,e => e
 | o :: os,ρ,H,r,e => by
  unfold opsA at e ⊢
  split
  ·simp_all
  ·simp_all
   exact opsA_mono h e
  ·rename_i hg
   simp only [hg] at e
   cases ho : opA S a lo ρ H o with
   | none => simp [ho] at e
   | some v =>
    rw [opA_mono h ho]
    simp only [ho] at e
    exact opsA_mono h e
theorem drawGo_mono {S : AStat} {a b : CallF} (h : CLe a b) {lo n0 : Nat} {ops : Array Oper} {B : List Nat} : ∀ {os : List Oper} {k : Nat} {ρ : List AVal} {H : Heap} {r : DrawOut},drawGo S a lo n0 ops B os k ρ H = some r → drawGo S b lo n0 ops B os k ρ H = some r
 | [],_,_,_,_,e => e
 | o :: os,k,ρ,H,r,e => by
  unfold drawGo at e ⊢
  split
  ·simp_all
  ·rename_i hg
   simp only [hg] at e
   exact drawGo_mono h e
  ·rename_i hg
   simp only [hg] at e
   split
   ·rename_i hn
    simp only [hn,if_true] at e
    split
    ·simp_all
    ·rename_i hq
     simp only [hq] at e
     split
     ·rename_i hh
      simp only [hh] at e
      exact drawGo_mono h e
     ·rename_i hh
      split at e
      ·rename_i hh'
       exact (hh hh').elim
      ·cases e
   ·rename_i hn
    simp only [hn,if_false,Bool.false_eq_true] at e
    split
    ·rename_i he
     simp only [he,if_true] at e
     cases ho : effA S a lo ρ (hide H (hidden ops B n0 k)) o.op with
     | none => simp [ho] at e
     | some v =>
      rw [effA_mono h ho]
      simp only [ho] at e ⊢
      split
      ·rename_i hl
       simp only [hl,if_true] at e
       cases hd : drawGo S a lo n0 ops B os (k + 1) (putA ρ o.dst v.1) (unhide H v.2 (hidden ops B n0 k)) with
       | none => simp [hd] at e
       | some q =>
        rw [drawGo_mono h hd]
        simp only [hd] at e ⊢
        exact e
      ·rename_i hl
       simp [hl] at e
    ·rename_i he
     simp only [he,if_false,Bool.false_eq_true] at e
     split
     ·simp_all
     ·rename_i v hq
      simp only [hq] at e
      cases hd : drawGo S a lo n0 ops B os (k + 1) (putA ρ o.dst v) H with
      | none => simp [hd] at e
      | some q =>
       rw [drawGo_mono h hd]
       simp only [hd] at e ⊢
       exact e
theorem drawA_mono {S : AStat} {a b : CallF} (h : CLe a b) {lo : Nat} {ops : Array Oper} {ρ : List AVal} {H : Heap} {r : List AVal × Heap} (e : drawA S a lo ops ρ H = some r) : drawA S b lo ops ρ H = some r := by
 unfold drawA at e ⊢
 simp only at e ⊢
 split
 ·rename_i hc
  simp only [hc,if_true] at e
  cases hd : drawGo S a lo H.length ops (befs ops.toList []) ops.toList 0 ρ (if ops.any (fun o => isNewB o.op) then H ++ List.replicate ops.size none else H) with
  | none => rw [hd] at e; cases e
  | some q =>
   rw [drawGo_mono h hd]
   rw [hd] at e
   exact e
 ·rename_i hc
  rw [if_neg hc] at e
  cases e
theorem callA_mono {S : AStat} {a b : ExecF} (h : ELe a b) : CLe (callA S a) (callA S b) := by
 intro lo f av H r e
 unfold callA at e ⊢
 split
 ·simp_all
 ·rename_i hk
  simp only [hk] at e
  split
  ·simp_all
  ·rename_i fn hf
   simp only [hf] at e
   split
   ·simp_all
   ·rename_i body hb
    simp only [hb] at e
    split at e
    ·cases e
    ·cases e
    ·rename_i x ρ H' hne hr
     rw [h _ _ _ _ _ hr]
     cases x with
     | exit i => exact (hne i rfl).elim
     | _ => exact e
theorem stepA_mono {S : AStat} {a b : ExecF} (h : ELe a b) : ELe (stepA S a) (stepA S b) := by
 intro lo c ρ H r e
 unfold stepA at e ⊢
 split
 ·exact e
 ·exact e
 ·exact e
 ·exact e
 ·rename_i p q
  simp only at e
  split at e
  ·rename_i ρ' H' h1
   rw [h _ _ _ _ _ h1]
   exact h _ _ _ _ _ e
  ·rename_i hne
   rw [h _ _ _ _ _ e]
   split
   ·rename_i h2
    simp only [qa] at h2
    subst h2
    exact (hne _ _ e).elim
   ·rfl
 ·rename_i x p q
  simp only at e
  cases hb : evalA S ρ x with
  | bool t => cases t <;> (simp only [hb] at e ⊢; exact h _ _ _ _ _ e)
  | _ => simp [hb] at e
 ·rename_i id p
  simp only at e
  split at e
  ·rename_i h1
   rw [h _ _ _ _ _ h1]
   exact e
  ·rename_i hne
   rw [h _ _ _ _ _ e]
   split
   ·rename_i h2
    simp only [qa] at h2
    subst h2
    exact (hne _ _ _ e).elim
   ·rfl
 ·rename_i p
  simp only at e
  split at e
  ·rename_i ρ' H' h1
   rw [h _ _ _ _ _ h1]
   exact h _ _ _ _ _ e
  ·rename_i hne
   rw [h _ _ _ _ _ e]
   split
   ·rename_i h2
    simp only [qa] at h2
    subst h2
    exact (hne _ _ e).elim
   ·rfl
 ·rename_i id ops draw
  simp only at e
  split
  ·rename_i hd
   simp only [hd,if_true] at e
   rw [qd] at e ⊢
   obtain ⟨q,h1,h2⟩ := e
   exact ⟨q,drawA_mono (callA_mono h) h1,h2⟩
  ·rename_i hd
   simp only [hd,if_false,Bool.false_eq_true] at e
   rw [qd] at e ⊢
   obtain ⟨q,h1,h2⟩ := e
   exact ⟨q,opsA_mono (callA_mono h) h1,h2⟩
 ·simp_all
theorem execA_succ {S : AStat} : ∀ n,ELe (execA S n) (execA S (n + 1))
 | 0 => fun _ _ _ _ _ e => by cases e
 | n + 1 => stepA_mono (execA_succ n)
theorem execA_mono {S : AStat} {n m : Nat} (h : n ≤ m) : ELe (execA S n) (execA S m) := by
 induction h with
 | refl => exact fun _ _ _ _ _ e => e
 | step _ ih => exact fun _ _ _ _ _ e => execA_succ _ _ _ _ _ _ (ih _ _ _ _ _ e)
def Runs (S : AStat) (lo : Nat) (c : Code) (ρ : List AVal) (H : Heap) (r : AExit × List AVal × Heap) : Prop := ∃ n,execA S n lo c ρ H = some r
def CallRuns (S : AStat) (lo : Nat) (f : FuncId) (av : List AVal) (H : Heap) (r : AVal × Heap) : Prop := ∃ n,runA S n lo f av H = some r
theorem Runs.seq {S : AStat} {lo : Nat} {a b : Code} {ρ ρ' : List AVal} {H H' : Heap} {r : AExit × List AVal × Heap} (h : Runs S lo a ρ H (.normal,ρ',H')) (k : Runs S lo b ρ' H' r) : Runs S lo (.seq a b) ρ H r := by
 obtain ⟨n,h⟩ := h
 obtain ⟨m,k⟩ := k
 refine ⟨max n m + 1, ?_⟩
 show stepA S (execA S (max n m)) lo (.seq a b) ρ H = some r
 simp only [stepA]
 rw [execA_mono (Nat.le_max_left n m) _ _ _ _ _ h]
 exact execA_mono (Nat.le_max_right n m) _ _ _ _ _ k
theorem Runs.seq_out {S : AStat} {lo : Nat} {a b : Code} {ρ ρ' : List AVal} {H H' : Heap} {x : AExit} (hx : x ≠ .normal) (h : Runs S lo a ρ H (x,ρ',H')) : Runs S lo (.seq a b) ρ H (x,ρ',H') := by
 obtain ⟨n,h⟩ := h
 refine ⟨n + 1, ?_⟩
 show stepA S (execA S n) lo (.seq a b) ρ H = some _
 simp only [stepA]
 rw [h]
 cases x with
 | normal => exact (hx rfl).elim
 | _ => rfl
theorem Runs.cond {S : AStat} {lo : Nat} {x : Operand} {a b : Code} {ρ : List AVal} {H : Heap} {r : AExit × List AVal × Heap} {t : Bool} (hx : evalA S ρ x = .bool t) (h : Runs S lo (if t then a else b) ρ H r) : Runs S lo (.cond x a b) ρ H r := by
 obtain ⟨n,h⟩ := h
 refine ⟨n + 1, ?_⟩
 show stepA S (execA S n) lo (.cond x a b) ρ H = some _
 simp only [stepA,hx]
 cases t <;> exact h
theorem Runs.block {S : AStat} {lo : Nat} {id : Nat} {b : Code} {ρ ρ' : List AVal} {H H' : Heap} {x : AExit} (h : Runs S lo b ρ H (x,ρ',H')) : Runs S lo (.block id b) ρ H ((match x with | .exit i => if i = id then .normal else .exit i | x => x),ρ',H') := by
 obtain ⟨n,h⟩ := h
 refine ⟨n + 1, ?_⟩
 show stepA S (execA S n) lo (.block id b) ρ H = some _
 simp only [stepA,h]
 cases x with
 | exit i =>
  simp only
  split <;> rfl
 | _ => rfl
theorem Runs.loop_next {S : AStat} {lo : Nat} {b : Code} {ρ ρ' : List AVal} {H H' : Heap} {r : AExit × List AVal × Heap} (h : Runs S lo b ρ H (.normal,ρ',H')) (k : Runs S lo (.loop b) ρ' H' r) : Runs S lo (.loop b) ρ H r := by
 obtain ⟨n,h⟩ := h
 obtain ⟨m,k⟩ := k
 refine ⟨max n m + 1, ?_⟩
 show stepA S (execA S (max n m)) lo (.loop b) ρ H = some r
 simp only [stepA]
 rw [execA_mono (Nat.le_max_left n m) _ _ _ _ _ h]
 exact execA_mono (Nat.le_max_right n m) _ _ _ _ _ k
theorem Runs.loop_out {S : AStat} {lo : Nat} {b : Code} {ρ ρ' : List AVal} {H H' : Heap} {x : AExit} (hx : x ≠ .normal) (h : Runs S lo b ρ H (x,ρ',H')) : Runs S lo (.loop b) ρ H (x,ρ',H') := by
 obtain ⟨n,h⟩ := h
 refine ⟨n + 1, ?_⟩
 show stepA S (execA S n) lo (.loop b) ρ H = some _
 simp only [stepA]
 rw [h]
 cases x with
 | normal => exact (hx rfl).elim
 | _ => rfl
theorem CallRuns.of_body {S : AStat} {lo : Nat} {f : FuncId} {fn : Func} {body : Code} (hf : S.P.funcs[f]? = some fn) (hb : fn.body = some body) (hk : S.hook f = none) {av : List AVal} {H : Heap} {x : AExit} {ρ : List AVal} {H' : Heap}
 (h : Runs S ((S.pol f).lo lo H) body (av ++ List.replicate (fn.ntmps - av.length) undefA) H (x,ρ,H')) (hx : ∀ i,x ≠ .exit i)
 {vs : List AVal} (hr : resultsA S ρ H' fn.results.toList = some vs) {r : AVal × Heap} (hfin : finish (S.pol f) H (tupled vs) H' = some r) : CallRuns S lo f av H r := by
 obtain ⟨n,h⟩ := h
 refine ⟨n, ?_⟩
 show callA S (execA S n) lo f av H = some r
 simp only [callA,hk,hf,hb]
 cases hp : S.pol f <;> simp only [hp] at h hfin ⊢ <;> rw [h] <;> cases x <;> first | exact (hx _ rfl).elim | simp only [hr,hfin]
def flat : Code → List Code → List Code
 | .seq a b,k => flat a (flat b k)
 | c,k => c :: k
def execL (S : AStat) (N lo : Nat) : List Code → List AVal → Heap → Option (AExit × List AVal × Heap)
 | [],ρ,H => some (.normal,ρ,H)
 | c :: l,ρ,H => match execA S N lo c ρ H with
  | some (.normal,ρ',H') => execL S N lo l ρ' H'
  | r => r
def RunsL (S : AStat) (lo : Nat) : List Code → List AVal → Heap → AExit × List AVal × Heap → Prop
 | [],ρ,H,r => r = (.normal,ρ,H)
 | c :: l,ρ,H,r => (∃ ρ' H',Runs S lo c ρ H (.normal,ρ',H') ∧ RunsL S lo l ρ' H' r) ∨ (r.1 ≠ .normal ∧ Runs S lo c ρ H r)
theorem RunsL.of_exec {S : AStat} {N lo : Nat} : ∀ {l : List Code} {ρ : List AVal} {H : Heap} {r : AExit × List AVal × Heap},execL S N lo l ρ H = some r → RunsL S lo l ρ H r
 | [],_,_,_,h => by
  simp only [execL,qa] at h
  exact h.symm
 | c :: l,ρ,H,r,h => by
  simp only [execL] at h
  split at h
  ·rename_i h1
   exact .inl ⟨_,_,⟨N,h1⟩,RunsL.of_exec h⟩
  ·rename_i hne
   refine .inr ⟨?_,⟨N,h⟩⟩
   intro e
   obtain ⟨x,ρ',H'⟩ := r
   cases e
   exact hne _ _ h
theorem RunsL.flat {S : AStat} {lo : Nat} : ∀ {c : Code} {k : List Code} {ρ : List AVal} {H : Heap} {r : AExit × List AVal × Heap},RunsL S lo (flat c k) ρ H r → RunsL S lo (c :: k) ρ H r := by
 intro c
 induction c with
 | seq a b iha ihb =>
  intro k ρ H r h
  have h := iha h
  rcases h with ⟨ρ1,H1,h1,h2⟩ | ⟨h1,h2⟩
  ·rcases ihb h2 with ⟨ρ2,H2,h3,h4⟩ | ⟨h3,h4⟩
   ·exact .inl ⟨ρ2,H2,h1.seq h3,h4⟩
   ·exact .inr ⟨h3,h1.seq h4⟩
  ·obtain ⟨x,ρ',H'⟩ := r
   exact .inr ⟨h1,Runs.seq_out h1 h2⟩
 | _ => intro k ρ H r h; exact h
theorem Runs.of_flat {S : AStat} {lo : Nat} {c : Code} {ρ : List AVal} {H : Heap} {r : AExit × List AVal × Heap} (h : RunsL S lo (Am.flat c []) ρ H r) : Runs S lo c ρ H r := by
 rcases RunsL.flat h with ⟨ρ',H',h1,h2⟩ | ⟨_,h2⟩
 ·cases h2
  exact h1
 ·exact h2
def headsA (S : AStat) (lo N : Nat) : Nat → List Code → List AVal → Heap → Option (List Code × List AVal × Heap)
 | 0,l,ρ,H => some (l,ρ,H)
 | k + 1,c :: l,ρ,H => match execA S N lo c ρ H with
  | some (.normal,ρ',H') => headsA S lo N k l ρ' H'
  | _ => none
 | _ + 1,[],_,_ => none
theorem RunsL.heads {S : AStat} {lo N : Nat} : ∀ {k : Nat} {l : List Code} {ρ : List AVal} {H : Heap} {l' : List Code} {ρ' : List AVal} {H' : Heap} {r : AExit × List AVal × Heap},
 headsA S lo N k l ρ H = some (l',ρ',H') → RunsL S lo l' ρ' H' r → RunsL S lo l ρ H r
 | 0,l,ρ,H,l',ρ',H',r,h,k => by
  simp only [headsA,qa,qe] at h
  obtain ⟨rfl,rfl,rfl⟩ := h
  exact k
 | j + 1,[],ρ,H,l',ρ',H',r,h,k => by cases h
 | j + 1,c :: l,ρ,H,l',ρ',H',r,h,k => by
  simp only [headsA] at h
  split at h
  ·rename_i h1
   exact .inl ⟨_,_,⟨N,h1⟩,RunsL.heads h k⟩
  ·cases h
def tailA (S : AStat) (N : Nat) (f : FuncId) (fn : Func) (lo : Nat) (H0 : Heap) (l : List Code) (ρ : List AVal) (H : Heap) : Option (AVal × Heap) :=
 match execL S N ((S.pol f).lo lo H0) l ρ H with
 | none => none
 | some (.exit _,_,_) => none
 | some (_,ρ',H') =>
  match resultsA S ρ' H' fn.results.toList with
  | none => none
  | some vs => finish (S.pol f) H0 (tupled vs) H'
def headA (S : AStat) (N k : Nat) (f : FuncId) (fn : Func) (body : Code) (lo : Nat) (av : List AVal) (H : Heap) : Option (List Code × List AVal × Heap) :=
 headsA S ((S.pol f).lo lo H) N k (flat body []) (av ++ List.replicate (fn.ntmps - av.length) undefA) H
theorem CallRuns.of_tail {S : AStat} {lo : Nat} {f : FuncId} {fn : Func} {body : Code} (hf : S.P.funcs[f]? = some fn) (hb : fn.body = some body) (hk : S.hook f = none) {av : List AVal} {H : Heap} {N k M : Nat}
 {l' : List Code} {ρ' : List AVal} {H' : Heap} (h : headA S N k f fn body lo av H = some (l',ρ',H')) {r : AVal × Heap} (ht : tailA S M f fn lo H l' ρ' H' = some r) : CallRuns S lo f av H r := by
 unfold tailA at ht
 split at ht
 ·cases ht
 ·cases ht
 ·rename_i x ρ1 H1 hne h1
  split at ht
  ·cases ht
  ·rename_i vs hvs
   exact CallRuns.of_body hf hb hk (Runs.of_flat (RunsL.heads h (RunsL.of_exec h1))) (fun i e => hne i e) hvs ht
theorem set_self {ρ : List AVal} {i : Nat} {v : AVal} (h : ρ[i]? = some v) : ρ.set i v = ρ := by
 apply List.ext_getElem?
 intro j
 rw [qh]
 split
 ·rename_i hij
  subst hij
  rw [h]
  split
  ·rfl
  ·rename_i hl
   rw [qr (by omega)] at h
   cases h
 ·rfl
theorem CallRuns.cut {S : AStat} {lo : Nat} {f : FuncId} {fn : Func} {body : Code} (hf : S.P.funcs[f]? = some fn) (hb : fn.body = some body) (hk : S.hook f = none) {av : List AVal} {H : Heap} (N k M i : Nat) {v w : AVal}
 (hi : ((headA S N k f fn body lo av H).bind fun s => s.2.1[i]?) = some v) (hvw : v = w) {a : AVal}
 (ht : ((headA S N k f fn body lo av H).bind fun s => (tailA S M f fn lo H s.1 (s.2.1.set i w) s.2.2).map (·.1)) = some a) : ∃ H',CallRuns S lo f av H (a,H') := by
 subst hvw
 cases hh : headA S N k f fn body lo av H with
 | none => simp [hh] at hi
 | some s =>
  obtain ⟨l',ρ',H'⟩ := s
  simp only [hh,Option.bind_some] at hi ht
  rw [set_self hi,qd] at ht
  obtain ⟨⟨a',H1⟩,h1,h2⟩ := ht
  cases h2
  exact ⟨H1,CallRuns.of_tail hf hb hk hh h1⟩
end Go.Am

/- Rules for code over idealised states, seen from a function's entry: between pieces a state may be weakened; a loop by an invariant and a measure. Generic: over any program. -/
namespace Go.Am
open Go.RowKit
structure Ent where
 lo : Nat
 c : Cx
 H : Heap
def Keeps (S : AStat) (E : Ent) (ρ : List AVal) (H : Heap) (tmps : List Value) (w : World) : Prop :=
 ∃ c,c.w = w ∧ Rel c H ∧ GlobOk S c ∧ Tr E.c E.H c H ∧ Low E.lo E.c E.H c H ∧ Vs c ρ tmps
abbrev OutQ := AExit → List AVal → Heap → Prop
def outPost (S : AStat) (E : Ent) (Q : OutQ) (e : Exit) (a : Act) (w : World) : Prop :=
 a.defers = [] ∧ ∃ x ρ H,e = x.toExit ∧ Q x ρ H ∧ Keeps S E ρ H a.tmps.toList w
def Wp (S : AStat) (E : Ent) (c : Code) (ρ : List AVal) (H : Heap) (Q : OutQ) : Prop :=
 ∀ a w,Keeps S E ρ H a.tmps.toList w → a.defers = [] → c.wp S.P (outPost S E Q) a w
def Weak (S : AStat) (E : Ent) (ρ : List AVal) (H : Heap) (ρ1 : List AVal) (H1 : Heap) : Prop :=
 ∀ tmps w,Keeps S E ρ H tmps w → Keeps S E ρ1 H1 tmps w
theorem Weak.refl {S : AStat} {E : Ent} {ρ : List AVal} {H : Heap} : Weak S E ρ H ρ H := fun _ _ h => h
theorem Weak.trans {S : AStat} {E : Ent} {ρ ρ1 ρ2 : List AVal} {H H1 H2 : Heap} (h : Weak S E ρ H ρ1 H1) (k : Weak S E ρ1 H1 ρ2 H2) : Weak S E ρ H ρ2 H2 := fun _ _ x => k _ _ (h _ _ x)
theorem Wp.weak {S : AStat} {E : Ent} {c : Code} {ρ ρ1 : List AVal} {H H1 : Heap} {Q : OutQ} (h : Weak S E ρ H ρ1 H1) (k : Wp S E c ρ1 H1 Q) : Wp S E c ρ H Q := fun a w x y => k a w (h _ _ x) y
theorem Wp.mono {S : AStat} {E : Ent} {c : Code} {ρ : List AVal} {H : Heap} {Q Q' : OutQ} (h : Wp S E c ρ H Q) (hq : ∀ x ρ' H',Q x ρ' H' → ∃ ρ1 H1,Weak S E ρ' H' ρ1 H1 ∧ Q' x ρ1 H1) : Wp S E c ρ H Q' := by
 intro a w hk hd
 refine wp_mono (h a w hk hd) ?_
 rintro e a' w' ⟨h1,x,ρ',H',h2,h3,h4⟩
 obtain ⟨ρ1,H1,h5,h6⟩ := hq x ρ' H' h3
 exact ⟨h1,x,ρ1,H1,h2,h6,h5 _ _ h4⟩
theorem Wp.run {S : AStat} (hS : StatOk S) {E : Ent} {c : Code} {ρ ρ' : List AVal} {H H' : Heap} {x : AExit} {Q : OutQ} (h : Runs S E.lo c ρ H (x,ρ',H')) (hq : Q x ρ' H') : Wp S E c ρ H Q := by
 obtain ⟨n,h⟩ := h
 rintro a w ⟨cx,rfl,hR,hG,hT,hL,hv⟩ hd
 refine wp_mono (execA_ok hS n _ _ _ _ _ _ _ h cx a hR hG hv hd).1 ?_
 rintro e a' w' ⟨he,hd',c',rfl,h1,h2,h3,h4⟩
 exact ⟨hd',x,ρ',H',he,hq,c',rfl,h1,hG.ext h2.ext,hT.trans h2,hL.trans hT.ext h3,h4⟩
theorem Wp.seq {S : AStat} {E : Ent} {p q : Code} {ρ : List AVal} {H : Heap} {Q : OutQ} (h : Wp S E p ρ H fun x ρ' H' => (x = .normal ∧ Wp S E q ρ' H' Q) ∨ (x ≠ .normal ∧ Q x ρ' H')) : Wp S E (.seq p q) ρ H Q := by
 intro a w hk hd
 refine wp_seq (wp_mono (h a w hk hd) ?_)
 rintro e a' w' ⟨h1,x,ρ',H',rfl,h3,h4⟩
 rcases h3 with ⟨rfl,h3⟩ | ⟨h2,h3⟩
 ·exact h3 a' w' h4 h1
 ·cases x with
  | normal => exact (h2 rfl).elim
  | exit i => exact ⟨h1,.exit i,ρ',H',rfl,h3,h4⟩
  | ret => exact ⟨h1,.ret,ρ',H',rfl,h3,h4⟩
theorem Wp.cond {S : AStat} {E : Ent} {x : Operand} {p q : Code} {ρ : List AVal} {H : Heap} {Q : OutQ} {t : Bool} (hx : evalA S ρ x = .bool t) (h : Wp S E (if t then p else q) ρ H Q) : Wp S E (.cond x p q) ρ H Q := by
 rintro a w hk hd
 obtain ⟨cx,rfl,hR,hG,hT,hL,hv⟩ := id hk
 have hc := evalA_V (a := a) hG hv x
 rw [hx] at hc
 simp only [V] at hc
 cases t with
 | true => exact wp_cond_true hc (h a _ hk hd)
 | false => exact wp_cond_false hc (h a _ hk hd)
theorem Wp.block {S : AStat} {E : Ent} {id : Nat} {p : Code} {ρ : List AVal} {H : Heap} {Q : OutQ} (h : Wp S E p ρ H fun x ρ' H' => Q (match x with | .exit i => if i = id then .normal else .exit i | x => x) ρ' H') : Wp S E (.block id p) ρ H Q := by
 intro a w hk hd
 refine wp_block (wp_mono (h a w hk hd) ?_)
 rintro e a' w' ⟨h1,x,ρ',H',rfl,h3,h4⟩
 cases x with
 | normal => exact ⟨h1,.normal,ρ',H',rfl,h3,h4⟩
 | ret => exact ⟨h1,.ret,ρ',H',rfl,h3,h4⟩
 | exit i =>
  simp only at h3
  by_cases hi : i = id
  ·rw [if_pos hi] at h3
   simp only [AExit.toExit,Exit.inBlock]
   rw [if_pos hi]
   exact ⟨h1,.normal,ρ',H',rfl,h3,h4⟩
  ·rw [if_neg hi] at h3
   simp only [AExit.toExit,Exit.inBlock]
   rw [if_neg hi]
   exact ⟨h1,.exit i,ρ',H',rfl,h3,h4⟩
theorem Wp.loop {S : AStat} {E : Ent} {p : Code} {Q : OutQ} {σ : Type} (I : σ → Prop) (ρs : σ → List AVal) (Hs : σ → Heap) (m : σ → Nat)
 (h : ∀ s,I s → Wp S E p (ρs s) (Hs s) fun x ρ' H' => (x = .normal ∧ ∃ s',I s' ∧ m s' < m s ∧ Weak S E ρ' H' (ρs s') (Hs s')) ∨ (x ≠ .normal ∧ Q x ρ' H'))
 {s : σ} (hs : I s) : Wp S E (.loop p) (ρs s) (Hs s) Q := by
 intro a w hk hd
 have key : ∀ n s,I s → m s < n → ∀ a w,Keeps S E (ρs s) (Hs s) a.tmps.toList w → a.defers = [] → Code.rounds S.P p (outPost S E Q) n a w := by
  intro n
  induction n with
  | zero => intro s _ hm; omega
  | succ n ih =>
   intro s hs hm a w hk hd
   refine wp_mono (h s hs a w hk hd) ?_
   rintro e a' w' ⟨h1,x,ρ',H',rfl,h3,h4⟩
   rcases h3 with ⟨rfl,s',hs',hm',hw⟩ | ⟨h2,h3⟩
   ·exact ih s' hs' (by omega) a' w' (hw _ _ h4) h1
   ·cases x with
    | normal => exact (h2 rfl).elim
    | exit i => exact ⟨h1,.exit i,ρ',H',rfl,h3,h4⟩
    | ret => exact ⟨h1,.ret,ρ',H',rfl,h3,h4⟩
 exact wp_loop_rounds (m s + 1) (key _ s hs (by omega) a w hk hd)
def WpL (S : AStat) (E : Ent) : List Code → List AVal → Heap → OutQ → Prop
 | [],ρ,H,Q => ∃ ρ1 H1,Weak S E ρ H ρ1 H1 ∧ Q .normal ρ1 H1
 | c :: l,ρ,H,Q => Wp S E c ρ H fun x ρ' H' => (x = .normal ∧ WpL S E l ρ' H' Q) ∨ (x ≠ .normal ∧ Q x ρ' H')
theorem WpL.flat {S : AStat} {E : Ent} : ∀ {c : Code} {k : List Code} {ρ : List AVal} {H : Heap} {Q : OutQ},WpL S E (Am.flat c k) ρ H Q → WpL S E (c :: k) ρ H Q := by
 intro c
 induction c with
 | seq p q ihp ihq =>
  intro k ρ H Q h
  have h1 := ihp h
  refine Wp.seq (Wp.mono h1 ?_)
  rintro x ρ' H' (⟨rfl,h2⟩ | ⟨h2,h3⟩)
  ·exact ⟨ρ',H',Weak.refl,.inl ⟨rfl,ihq h2⟩⟩
  ·exact ⟨ρ',H',Weak.refl,.inr ⟨h2,.inr ⟨h2,h3⟩⟩⟩
 | _ => intro k ρ H Q h; exact h
theorem Wp.of_flat {S : AStat} {E : Ent} {c : Code} {ρ : List AVal} {H : Heap} {Q : OutQ} (h : WpL S E (Am.flat c []) ρ H Q) : Wp S E c ρ H Q := by
 refine Wp.mono (WpL.flat h) ?_
 rintro x ρ' H' (⟨rfl,ρ1,H1,h1,h2⟩ | ⟨_,h3⟩)
 ·exact ⟨ρ1,H1,h1,h2⟩
 ·exact ⟨ρ',H',Weak.refl,h3⟩
theorem WpL.weak {S : AStat} {E : Ent} {l : List Code} {ρ ρ1 : List AVal} {H H1 : Heap} {Q : OutQ} (h : Weak S E ρ H ρ1 H1) (k : WpL S E l ρ1 H1 Q) : WpL S E l ρ H Q := by
 cases l with
 | nil =>
  obtain ⟨ρ2,H2,h1,h2⟩ := k
  exact ⟨ρ2,H2,h.trans h1,h2⟩
 | cons c l => exact Wp.weak h k
theorem WpL.heads {S : AStat} (hS : StatOk S) {E : Ent} {N : Nat} : ∀ {k : Nat} {l : List Code} {ρ : List AVal} {H : Heap} {l' : List Code} {ρ' : List AVal} {H' : Heap} {Q : OutQ},
 headsA S E.lo N k l ρ H = some (l',ρ',H') → WpL S E l' ρ' H' Q → WpL S E l ρ H Q
 | 0,l,ρ,H,l',ρ',H',Q,h,k => by
  simp only [headsA,qa,qe] at h
  obtain ⟨rfl,rfl,rfl⟩ := h
  exact k
 | j + 1,[],ρ,H,l',ρ',H',Q,h,k => by cases h
 | j + 1,c :: l,ρ,H,l',ρ',H',Q,h,k => by
  simp only [headsA] at h
  split at h
  ·rename_i h1
   exact Wp.run hS ⟨N,h1⟩ (.inl ⟨rfl,WpL.heads hS h k⟩)
  ·cases h
theorem contract_of_wp {S : AStat} {f : FuncId} {fn : Func} {body : Code} (hf : S.P.funcs[f]? = some fn) (hb : fn.body = some body)
 {lo : Nat} {c : Cx} {H : Heap} (hR : Rel c H) (hG : GlobOk S c) {av : List AVal} {vs : List Value} (hv : Vs c av vs) {r : AVal} {H1 : Heap}
 (h : Wp S ⟨lo,c,H⟩ body (av ++ List.replicate (fn.ntmps - av.length) undefA) H fun x ρ H' => (∀ i,x ≠ .exit i) ∧ H' = H1 ∧ ∃ rs,resultsA S ρ H1 fn.results.toList = some rs ∧ tupled rs = r) :
 (∃ fn,S.P.funcs[f]? = some fn ∧ fn.body.isSome = true) ∧ Calls S.P f vs.toArray c.w (CallPost lo c H r H1) := by
 refine ⟨⟨fn,hf,by simp [hb]⟩, ?_⟩
 refine calls_of_wp hf hb ?_
 have hlen := Vs_length hv
 have hargs : Vs c (av ++ List.replicate (fn.ntmps - av.length) undefA) (vs.toArray ++ Array.replicate (fn.ntmps - vs.toArray.size) undef).toList := by
  have : (vs.toArray ++ Array.replicate (fn.ntmps - vs.toArray.size) undef).toList = vs ++ List.replicate (fn.ntmps - av.length) undef := by
   simp [hlen]
  rw [this]
  exact Vs_append hv (Vs_replicate (undef_V c) _)
 refine wp_mono (h { tmps := vs.toArray ++ Array.replicate (fn.ntmps - vs.toArray.size) undef,defers := [] } c.w ⟨c,rfl,hR,hG,Tr.refl _ _,Low.refl _ _ _,hargs⟩ rfl) ?_
 rintro e a' w' ⟨hd,x,ρ',H',rfl,⟨hx,rfl,rs,hrs,rfl⟩,c',rfl,h1,_,h2,h3,h4⟩
 obtain ⟨u,h5,h6⟩ := results_sim h1 h4 fn hrs
 cases x with
 | exit i => exact (hx i rfl).elim
 | normal => exact ⟨hd,u,h5,u,c',rfl,rfl,h1,h2,h3,h6⟩
 | ret => exact ⟨hd,u,h5,u,c',rfl,rfl,h1,h2,h3,h6⟩
end Go.Am

/- What the laid variables give: a row of sentinels at so many places, a type's handle; memory that is made and not looked at. Generic: over any program. -/
namespace Go.Am
open Go.RowKit Go.ChangeShapes Go.WideShapes
theorem Rel.waste {c : Cx} {H : Heap} (hR : Rel c H) (o : Obj) (lo : Nat) : Rel { c with w := c.w.alloc o } H ∧ Tr c H { c with w := c.w.alloc o } H ∧ Low lo c H { c with w := c.w.alloc o } H := by
 have keep : ∀ B,B < c.w.heap.size → (c.w.alloc o).heap[B]? = c.w.heap[B]? := fun B hB => Below.heap_alloc _ _ _ hB
 have h := hR.step (c' := { c with w := c.w.alloc o }) (H' := H) (fun _ => False) (fun _ h => h.elim) (fun _ _ h => h) rfl rfl (by simp) (fun B hB _ => keep B hB) (fun _ _ _ h => shape_alloc _ _ _ _ _ h) rfl rfl rfl
  (fun _ b blk hb => by obtain ⟨B,base,h1,_⟩ := hR.blk b blk hb; exact .inl ⟨hb,B,base,h1,fun h => h⟩) hR.inj hR.fresh
 refine ⟨h.1,h.2,⟨fun x y _ hx => ⟨hx,fun B base hi => ?_⟩,fun _ _ h => h,qf _⟩⟩
 obtain ⟨B',base',h1,_,h2,_⟩ := hR.blk x y hx
 rw [hi] at h1
 simp only [qa,qe] at h1
 obtain ⟨rfl,rfl⟩ := h1
 exact keep _ h2
theorem Wrote.setCell {w : World} {B o : Nat} {u v : Value} (h : w.cell? ⟨B,o,none⟩ = some u) : Wrote w (w.setCell ⟨B,o,none⟩ v) B o [v] where
 size := by simp
 keep := fun X hX => Below.heap_setCell _ _ _ _ hX
 shape := fun X => shape_setCell _ _ _ _
 frozen := fun a => by simp
 os := rfl
 tape := rfl
 output := rfl
 new := by
  intro j x hj
  cases j with
  | zero =>
   simp at hj
   subst hj
   exact World.cell?_setCell_same _ _ _ h
  | succ j => simp at hj
 old := by
  intro off hoff
  refine World.cell?_setCell_other _ _ _ _ ?_
  simp at hoff
  intro e
  simp only [Addr.mk.injEq] at e
  omega
def sentD (nm : String) (text : List UInt8) : DataW Unit := .iface nm (.ptr (.agg [.lit (.string text)]))
theorem Rel.three {c : Cx} {H : Heap} (hR : Rel c H) (o1 o2 o3 : Obj) (lo : Nat) {w' : World} (hw : w' = ((c.w.alloc o1).alloc o2).alloc o3) :
 ∃ c',c'.w = w' ∧ Rel c' H ∧ Tr c H c' H ∧ Low lo c H c' H := by
 obtain ⟨r1,t1,l1⟩ := hR.waste o1 lo
 obtain ⟨r2,t2,l2⟩ := r1.waste o2 lo
 obtain ⟨r3,t3,l3⟩ := r2.waste o3 lo
 subst hw
 exact ⟨_,rfl,r3,(t1.trans t2).trans t3,(l1.trans t1.ext l2).trans (t1.trans t2).ext l3⟩
end Go.Am

/- What a laid array of numbers gives. Generic: over any program. -/
namespace Go.Am
set_option linter.unusedVariables false
open Go.RowKit Go.ChangeShapes Go.WideShapes
theorem ints_Vs {c : Cx} {k : IntKind} : ∀ (ns : List Int),Vs c (ns.map (AVal.int k)) (ns.map (Value.int k))
 | [] => by simp only [List.map_nil,Vs]
 | n :: ns => by simp only [List.map_cons,Vs]; exact ⟨_,_,rfl,by simp only [V],ints_Vs ns⟩
theorem laid_data {P : Program} {W : World} {nm : String} {ns : List Int} {k : IntKind} {g : Nat} {t e : TypeId} {len : Nat} {rest : List (String × DataW Unit)} {ps : List MemPlace}
 (hl : DataW.LaidVars P W ((nm,.agg (ns.map fun m => .lit (.int k m))) :: rest) ps) (hg : P.globalNamed nm = some g) (ht : (P.globals[g]?).map (·.type) = some t) (hu : P.underlying t = some (.array len e)) (he : P.underlying e = some (.int k)) (hc : P.cellsOf e = 1) (hct : P.cellsOf t = len) (h0 : 0 < len) :
 (∃ p q,DataW.LaidVars P W rest q ∧ ps = p ++ q) ∧ ∀ θ,V (cx0 W θ) (.ipt (ns.map (.int k))) (.pointer (some ⟨g,0,none⟩)) := by
 obtain ⟨g0,t0,cs,f0,p0,q0,hg0,ht0,hv,hd,hq,e0⟩ := hl
 obtain rfl := Option.some.inj (hg.symm.trans hg0)
 obtain rfl := Option.some.inj (ht.symm.trans ht0)
 refine ⟨⟨_,q0,hq,e0⟩, ?_⟩
 obtain ⟨xs,m,rfl,hx,hlen,hxl,hall⟩ := DataW.trod_array hu hd
 simp only [qe,DataW.agg.injEq] at hx
 obtain ⟨hx,_⟩ := hx
 have hns : ns.length = len := by
  have := congrArg List.length hx
  simp only [List.length_map] at this
  omega
 have hcs : cs.toList = ns.map (Value.int k) := by
  refine List.ext_getElem? fun i => ?_
  rcases qm i len with hi | hi
  ·have h1 := hall i hi
   rw [hc] at h1
   have hxi : xs[i]? = some xs[i] := qt (by omega)
   rw [hxi] at h1
   obtain ⟨n,h2,h3,_⟩ := DataW.trod_int he h1
   have h4 : cs.toList[i]? = some (.int k n) := by
    have h5 := congrArg (fun l => l[0]?) h2
    simp only [Nat.mul_one,qx,qw] at h5
    simpa using h5
   have h6 := congrArg (fun l => l[i]?) hx
   simp only [List.getElem?_map,hxi,Option.map_some] at h6
   rw [h3] at h6
   obtain ⟨n',h7,h8⟩ := Option.map_eq_some_iff.1 h6
   simp only [DataW.lit.injEq,Lit.int.injEq,true_and] at h8
   subst h8
   rw [h4,List.getElem?_map,h7]
   rfl
  ·rw [qr (by omega),qr (by simp only [List.length_map]; omega)]
 have hcell : ∀ i,W.cell? ⟨g,i,none⟩ = (ns.map (Value.int k))[i]? := fun i => by
  rw [World.var?_cell hg hv i,← hcs,Array.getElem?_toList]
 have lt : g < W.heap.size := by
  rcases qm g W.heap.size with hh | hh
  ·exact hh
  ·have := hcell 0
   rw [qt (by simp only [List.length_map]; omega)] at this
   simp [World.cell?,Array.getElem?_eq_none hh] at this
 intro θ
 simp only [V]
 refine ⟨g,0,ns.map (Value.int k),rfl,lt,fun j x hj => ?_, ?_⟩
 ·show W.cell? ⟨g,0 + j,none⟩ = some x
  rw [Nat.zero_add,hcell j]
  exact hj
 ·exact ints_Vs ns
theorem laid_cells {P : Program} {W : World} {nm : String} {ns : List Int} {k : IntKind} {g : Nat} {t e : TypeId} {len : Nat} {rest : List (String × DataW Unit)} {ps : List MemPlace}
 (hl : DataW.LaidVars P W ((nm,.agg (ns.map fun m => .lit (.int k m))) :: rest) ps) (hg : P.globalNamed nm = some g) (ht : (P.globals[g]?).map (·.type) = some t) (hu : P.underlying t = some (.array len e)) (he : P.underlying e = some (.int k)) (hc : P.cellsOf e = 1) (hct : P.cellsOf t = len) (h0 : 0 < len) :
 W.heap[g]?.bind (fun o => match o with | .cells cs _ _ => some cs | _ => none) = some (ns.map (Value.int k)).toArray := by
 obtain ⟨g0,t0,cs,f0,p0,q0,hg0,ht0,hv,hd,hq,e0⟩ := hl
 obtain rfl := Option.some.inj (hg.symm.trans hg0)
 obtain rfl := Option.some.inj (ht.symm.trans ht0)
 obtain ⟨xs,m,rfl,hx,hlen,hxl,hall⟩ := DataW.trod_array hu hd
 simp only [qe,DataW.agg.injEq] at hx
 obtain ⟨hx,_⟩ := hx
 have hns : ns.length = len := by
  have := congrArg List.length hx
  simp only [List.length_map] at this
  omega
 have hcs : cs.toList = ns.map (Value.int k) := by
  refine List.ext_getElem? fun i => ?_
  rcases qm i len with hi | hi
  ·have h1 := hall i hi
   rw [hc] at h1
   have hxi : xs[i]? = some xs[i] := qt (by omega)
   rw [hxi] at h1
   obtain ⟨n,h2,h3,_⟩ := DataW.trod_int he h1
   have h4 : cs.toList[i]? = some (.int k n) := by
    have h5 := congrArg (fun l => l[0]?) h2
    simp only [Nat.mul_one,qx,qw] at h5
    simpa using h5
   have h6 := congrArg (fun l => l[i]?) hx
   simp only [List.getElem?_map,hxi,Option.map_some] at h6
   rw [h3] at h6
   obtain ⟨n',h7,h8⟩ := Option.map_eq_some_iff.1 h6
   simp only [DataW.lit.injEq,Lit.int.injEq,true_and] at h8
   subst h8
   rw [h4,List.getElem?_map,h7]
   rfl
  ·rw [qr (by omega),qr (by simp only [List.length_map]; omega)]
 have hv' : W.heap[g]?.bind (fun o => match o with | .cells cs _ _ => some cs | _ => none) = some cs := by
  simp only [World.var?,hg,Option.bind_some] at hv
  cases ho : W.heap[g]? with
  | none => rw [ho] at hv; cases hv
  | some o =>
   rw [ho] at hv
   cases o <;> first
    | (cases hv; done)
    | exact hv
 rw [hv',← hcs]
theorem laid_tab {P : Program} {W : World} {nm : String} {ns : List Int} {k : IntKind} {g : Nat} {t e : TypeId} {len : Nat} {rest : List (String × DataW Unit)} {ps : List MemPlace}
 (hl : DataW.LaidVars P W ((nm,.agg (ns.map fun m => .lit (.int k m))) :: rest) ps) (hg : P.globalNamed nm = some g) (ht : (P.globals[g]?).map (·.type) = some t) (hu : P.underlying t = some (.array len e)) (he : P.underlying e = some (.int k)) (hc : P.cellsOf e = 1) (hct : P.cellsOf t = len) (h0 : 0 < len) (θ : List (Nat × Nat)) :
 (cx0 W θ).I g ∧ ∃ t fr,W.heap[g]? = some (.cells (ns.map (Value.int k)).toArray t fr) := by
 have h := laid_cells hl hg ht hu he hc hct h0
 cases ho : W.heap[g]? with
 | none => rw [ho] at h; cases h
 | some o =>
  rw [ho] at h
  have hlt : g < W.heap.size := by
   rcases qm g W.heap.size with hh | hh
   ·exact hh
   ·rw [Array.getElem?_eq_none hh] at ho; cases ho
  cases o <;> first | (cases h; done) | (simp only [Option.bind_some,qa] at h; subst h; exact ⟨hlt,_,_,rfl⟩)
end Go.Am

/- Registers and memory as trees, for the kernel's sake. Generic. -/
namespace Go.Am
inductive Bt (α : Type) where
 | l (a : α)
 | n (x y : Bt α)
noncomputable def Bt.get {α : Type} (t : Bt α) : Nat → Option α :=
 Bt.rec (motive := fun _ => Nat → Option α) (fun a _ => some a) (fun _ _ f g i => Bool.rec (f (Nat.div i 2)) (g (Nat.div i 2)) (Nat.beq (Nat.mod i 2) 1)) t
noncomputable def Bt.set {α : Type} (t : Bt α) (v : α) : Nat → Bt α :=
 Bt.rec (motive := fun _ => Nat → Bt α) (fun _ _ => .l v) (fun x y f g i => Bool.rec (.n (f (Nat.div i 2)) y) (.n x (g (Nat.div i 2))) (Nat.beq (Nat.mod i 2) 1)) t
noncomputable def Bt.full {α : Type} (a : α) (d : Nat) : Bt α := Nat.rec (.l a) (fun _ t => .n t t) d
def Full {α : Type} : Nat → Bt α → Prop
 | 0,.l _ => True
 | d + 1,.n x y => Full d x ∧ Full d y
 | _,_ => False
theorem full_full {α : Type} (a : α) : ∀ d,Full d (Bt.full a d)
 | 0 => trivial
 | d + 1 => ⟨full_full a d,full_full a d⟩
theorem get_full {α : Type} (a : α) : ∀ (d i : Nat),(Bt.full a d).get i = some a
 | 0,_ => rfl
 | d + 1,i => by
  show Bool.rec ((Bt.full a d).get (Nat.div i 2)) ((Bt.full a d).get (Nat.div i 2)) (Nat.beq (Nat.mod i 2) 1) = some a
  cases Nat.beq (Nat.mod i 2) 1 <;> exact get_full a d _
theorem full_set {α : Type} (v : α) : ∀ (d : Nat) (t : Bt α) (i : Nat),Full d t → Full d (t.set v i)
 | 0,.l _,_,_ => trivial
 | 0,.n _ _,_,h => h.elim
 | d + 1,.l _,_,h => h.elim
 | d + 1,.n x y,i,h => by
  show Full (d + 1) (Bool.rec (.n (x.set v (Nat.div i 2)) y) (.n x (y.set v (Nat.div i 2))) (Nat.beq (Nat.mod i 2) 1))
  cases Nat.beq (Nat.mod i 2) 1
  ·exact ⟨full_set v d x _ h.1,h.2⟩
  ·exact ⟨h.1,full_set v d y _ h.2⟩
theorem get_set {α : Type} (v : α) : ∀ (d : Nat) (t : Bt α) (i j : Nat),Full d t → i < 2 ^ d → j < 2 ^ d → (t.set v i).get j = if i = j then some v else t.get j
 | 0,.l _,i,j,_,hi,hj => by
  have : i = j := by simp at hi hj; omega
  subst this
  simp only [if_true]
  rfl
 | 0,.n _ _,_,_,h,_,_ => h.elim
 | d + 1,.l _,_,_,h,_,_ => h.elim
 | d + 1,.n x y,i,j,h,hi,hj => by
  have hi2 : i / 2 < 2 ^ d := by rw [Nat.pow_succ] at hi; omega
  have hj2 : j / 2 < 2 ^ d := by rw [Nat.pow_succ] at hj; omega
  have e1 : ∀ z : Nat,Nat.beq (Nat.mod z 2) 1 = decide (z % 2 = 1) := fun z => by
   show Nat.beq (z % 2) 1 = _
   rw [Bool.eq_iff_iff,Nat.beq_eq,decide_eq_true_eq]
  have gt : ∀ (p q : Bt α) (z : Nat),(Bt.n p q).get z = if z % 2 = 1 then q.get (z / 2) else p.get (z / 2) := by
   intro p q z
   have : (Bt.n p q).get z = (match Nat.beq (Nat.mod z 2) 1 with | false => p.get (Nat.div z 2) | true => q.get (Nat.div z 2)) := by
    show (Bool.rec (p.get (Nat.div z 2)) (q.get (Nat.div z 2)) (Nat.beq (Nat.mod z 2) 1) : Option α) = _
    cases Nat.beq (Nat.mod z 2) 1 <;> rfl
   rw [this,e1]
   by_cases h : z % 2 = 1 <;> simp [h] <;> rfl
  have st : (Bt.n x y).set v i = if i % 2 = 1 then .n x (y.set v (i / 2)) else .n (x.set v (i / 2)) y := by
   have : (Bt.n x y).set v i = (match Nat.beq (Nat.mod i 2) 1 with | false => Bt.n (x.set v (Nat.div i 2)) y | true => .n x (y.set v (Nat.div i 2))) := by
    show (Bool.rec (Bt.n (x.set v (Nat.div i 2)) y) (.n x (y.set v (Nat.div i 2))) (Nat.beq (Nat.mod i 2) 1) : Bt α) = _
    cases Nat.beq (Nat.mod i 2) 1 <;> rfl
   rw [this,e1]
   by_cases h : i % 2 = 1 <;> simp [h] <;> rfl
  rw [st]
  by_cases a : i % 2 = 1 <;> by_cases b : j % 2 = 1
  ·rw [if_pos a,gt,gt,if_pos b,if_pos b,get_set v d y _ _ h.2 hi2 hj2]
   have : i / 2 = j / 2 ↔ i = j := by omega
   simp [this]
  ·rw [if_pos a,gt,gt,if_neg b,if_neg b,if_neg (by omega)]
  ·rw [if_neg a,gt,gt,if_pos b,if_pos b,if_neg (by omega)]
  ·rw [if_neg a,gt,gt,if_neg b,if_neg b,get_set v d x _ _ h.1 hi2 hj2]
   have : i / 2 = j / 2 ↔ i = j := by omega
   simp [this]
structure Rg where
 t : Bt AVal
 n : Nat
noncomputable def Rg.get? (r : Rg) (i : Nat) : Option AVal := bif Nat.blt i r.n then r.t.get i else none
noncomputable def Rg.get (r : Rg) (i : Nat) : AVal := (r.get? i).getD undefA
noncomputable def Rg.set (r : Rg) (i : Nat) (v : AVal) : Rg := bif Nat.blt i r.n then ⟨r.t.set v i,r.n⟩ else r
noncomputable def Rg.toL (r : Rg) : List AVal := (List.range r.n).map r.get
def Rg.Ok (r : Rg) : Prop := Full 9 r.t ∧ r.n ≤ 512
theorem blt_iff (i n : Nat) : Nat.blt i n = decide (i < n) := by
 rw [Bool.eq_iff_iff,decide_eq_true_eq,Nat.blt_eq]
theorem full_some {α : Type} : ∀ (d : Nat) (t : Bt α) (i : Nat),Full d t → ∃ a,t.get i = some a
 | 0,.l a,_,_ => ⟨a,rfl⟩
 | 0,.n _ _,_,h => h.elim
 | d + 1,.l _,_,h => h.elim
 | d + 1,.n x y,i,h => by
  show ∃ a,Bool.rec (x.get (Nat.div i 2)) (y.get (Nat.div i 2)) (Nat.beq (Nat.mod i 2) 1) = some a
  cases Nat.beq (Nat.mod i 2) 1
  ·exact full_some d x _ h.1
  ·exact full_some d y _ h.2
theorem Rg.get?_toL {r : Rg} (h : r.Ok) (i : Nat) : r.toL[i]? = r.get? i := by
 unfold Rg.toL
 rw [List.getElem?_map]
 unfold Rg.get?
 rw [blt_iff]
 by_cases hi : i < r.n
 ·rw [List.getElem?_range hi]
  obtain ⟨a,ha⟩ := full_some 9 r.t i h.1
  simp [hi,Rg.get,Rg.get?,blt_iff,ha]
 ·simp [hi]
theorem Rg.get_toL {r : Rg} (h : r.Ok) (i : Nat) : r.toL.getD i undefA = r.get i := by
 rw [qi,Rg.get?_toL h]
 rfl
theorem Rg.set_ok {r : Rg} (h : r.Ok) (i : Nat) (v : AVal) : (r.set i v).Ok := by
 unfold Rg.set
 cases Nat.blt i r.n
 ·exact h
 ·exact ⟨full_set v 9 _ _ h.1,h.2⟩
theorem Rg.set_toL {r : Rg} (h : r.Ok) (i : Nat) (v : AVal) : (r.set i v).toL = r.toL.set i v := by
 apply List.ext_getElem?
 intro j
 rw [Rg.get?_toL (Rg.set_ok h i v),qh]
 have hlen : r.toL.length = r.n := by simp [Rg.toL]
 rw [Rg.get?_toL h,hlen]
 unfold Rg.set
 rw [blt_iff]
 by_cases hi : i < r.n
 ·simp only [hi,decide_true,cond_true,Rg.get?,blt_iff]
  by_cases hj : j < r.n
  ·simp only [hj,decide_true,cond_true]
   have h1 := h.2
   rw [get_set v 9 _ _ _ h.1 (by omega) (by omega)]
   split <;> simp_all
  ·simp only [hj,decide_false,cond_false]
   split
   ·omega
   ·rfl
 ·simp only [hi,decide_false,cond_false]
  split
  ·rename_i e
   subst e
   simp only [if_false,Rg.get?,blt_iff,hi,decide_false,cond_false]
  ·rfl
noncomputable def Rg.fill : List AVal → Nat → Rg → Rg
 | [],_,r => r
 | a :: as,i,r => Rg.fill as (i + 1) (r.set i a)
noncomputable def Rg.frame (args : List AVal) (n : Nat) : Rg := Rg.fill args 0 ⟨Bt.full undefA 9,n⟩
theorem fill_ok : ∀ (as : List AVal) (i : Nat) {r : Rg},r.Ok → (Rg.fill as i r).Ok
 | [],_,_,h => h
 | a :: as,i,_,h => fill_ok as (i + 1) (Rg.set_ok h i a)
theorem fill_toL : ∀ (as : List AVal) (i : Nat) {r : Rg},r.Ok → i + as.length ≤ r.n → (Rg.fill as i r).toL = r.toL.take i ++ as ++ r.toL.drop (i + as.length)
 | [],i,r,_,_ => by simp [Rg.fill]
 | a :: as,i,r,h,hl => by
  have hn : (r.set i a).n = r.n := by
   unfold Rg.set
   cases Nat.blt i r.n <;> rfl
  have hlen : r.toL.length = r.n := by simp [Rg.toL]
  simp only [qn] at hl
  simp only [Rg.fill]
  rw [fill_toL as (i + 1) (Rg.set_ok h i a) (by rw [hn]; omega),Rg.set_toL h]
  have h1 : (r.toL.set i a).take (i + 1) = r.toL.take i ++ [a] := by
   rw [List.take_set,List.take_succ_eq_append_getElem (by omega),List.set_append_right _ _ (by simp; omega)]
   simp
   rw [show i - min i r.toL.length = 0 by omega]
   rfl
  have h2 : (r.toL.set i a).drop (i + 1 + as.length) = r.toL.drop (i + (as.length + 1)) := by
   rw [List.drop_set_of_lt (by omega)]
   congr 1
   omega
  rw [h1,h2]
  simp
theorem frame_ok (args : List AVal) (n : Nat) (hn : n ≤ 512) : (Rg.frame args n).Ok := fill_ok _ _ ⟨full_full _ _,hn⟩
theorem frame_toL (args : List AVal) (n : Nat) (hn : n ≤ 512) (h : args.length ≤ n) : (Rg.frame args n).toL = args ++ List.replicate (n - args.length) undefA := by
 unfold Rg.frame
 rw [fill_toL args 0 ⟨full_full _ _,hn⟩ (by simpa using h)]
 have : (Rg.mk (Bt.full undefA 9) n).toL = List.replicate n undefA := by
  apply List.ext_getElem?
  intro i
  rw [Rg.get?_toL ⟨full_full _ _,hn⟩,List.getElem?_replicate]
  simp only [Rg.get?,blt_iff]
  by_cases hi : i < n <;> simp [hi,get_full]
 rw [this]
 simp
structure Hp where
 t : Bt (Option ABlk)
 n : Nat
noncomputable def Hp.get (h : Hp) (b : Nat) : Option (Option ABlk) := bif Nat.blt b h.n then h.t.get b else none
noncomputable def Hp.set (h : Hp) (b : Nat) (x : Option ABlk) : Hp := bif Nat.blt b h.n then ⟨h.t.set x b,h.n⟩ else h
noncomputable def Hp.push (h : Hp) (x : Option ABlk) : Option Hp := bif Nat.blt h.n 4096 then some ⟨h.t.set x h.n,h.n + 1⟩ else none
noncomputable def Hp.more (h : Hp) (k : Nat) : Option Hp := bif Nat.ble (h.n + k) 4096 then some ⟨h.t,h.n + k⟩ else none
noncomputable def Hp.toL (h : Hp) : Heap := (List.range h.n).map fun i => (h.t.get i).getD none
noncomputable def Hp.empty : Hp := ⟨Bt.full none 12,0⟩
def Hp.Ok (h : Hp) : Prop := Full 12 h.t ∧ h.n ≤ 4096 ∧ ∀ i,h.n ≤ i → i < 4096 → h.t.get i = some none
theorem Hp.empty_ok : Hp.empty.Ok := ⟨full_full _ _,Nat.zero_le _,fun i _ _ => get_full (none : Option ABlk) 12 i⟩
theorem Hp.empty_toL : Hp.empty.toL = [] := rfl
theorem Hp.length_toL (h : Hp) : h.toL.length = h.n := by simp [Hp.toL]
theorem Hp.get_toL {h : Hp} (ho : h.Ok) (b : Nat) : h.toL[b]? = h.get b := by
 unfold Hp.toL
 rw [List.getElem?_map]
 unfold Hp.get
 rw [blt_iff]
 by_cases hi : b < h.n
 ·rw [List.getElem?_range hi]
  obtain ⟨a,ha⟩ := full_some 12 h.t b ho.1
  simp [hi,ha]
 ·simp [hi]
theorem Hp.set_ok {h : Hp} (ho : h.Ok) (b : Nat) (x : Option ABlk) : (h.set b x).Ok := by
 unfold Hp.set
 rw [blt_iff]
 by_cases hb : b < h.n
 ·simp only [hb,decide_true,cond_true]
  refine ⟨full_set x 12 _ _ ho.1,ho.2.1,fun i h1 h2 => ?_⟩
  have := ho.2.1
  have h1 : h.n ≤ i := h1
  rw [get_set x 12 _ _ _ ho.1 (by omega) (by omega),if_neg (by omega)]
  exact ho.2.2 i h1 h2
 ·simp only [hb,decide_false,cond_false]
  exact ho
theorem Hp.set_toL {h : Hp} (ho : h.Ok) (b : Nat) (x : Option ABlk) : (h.set b x).toL = h.toL.set b x := by
 apply List.ext_getElem?
 intro j
 rw [Hp.get_toL (Hp.set_ok ho b x),qh,Hp.get_toL ho,Hp.length_toL]
 unfold Hp.set
 rw [blt_iff]
 by_cases hi : b < h.n
 ·simp only [hi,decide_true,cond_true,Hp.get,blt_iff]
  by_cases hj : j < h.n
  ·simp only [hj,decide_true,cond_true]
   have h1 := ho.2.1
   rw [get_set x 12 _ _ _ ho.1 (by omega) (by omega)]
   split <;> simp_all
  ·simp only [hj,decide_false,cond_false]
   split
   ·omega
   ·rfl
 ·simp only [hi,decide_false,cond_false]
  split
  ·rename_i e
   subst e
   simp only [if_false,Hp.get,blt_iff,hi,decide_false,cond_false]
  ·rfl
theorem Hp.push_ok {h h' : Hp} (ho : h.Ok) {x : Option ABlk} (e : h.push x = some h') : h'.Ok ∧ h'.toL = h.toL ++ [x] := by
 unfold Hp.push at e
 rw [blt_iff] at e
 by_cases hn : h.n < 4096
 ·simp only [hn,decide_true,cond_true,qa] at e
  subst e
  have hok : Hp.Ok ⟨h.t.set x h.n,h.n + 1⟩ := by
   refine ⟨full_set x 12 _ _ ho.1,hn,fun i h1 h2 => ?_⟩
   have h1 : h.n + 1 ≤ i := h1
   show (h.t.set x h.n).get i = some none
   rw [get_set x 12 _ _ _ ho.1 (by omega) (by omega),if_neg (by omega)]
   exact ho.2.2 i (by omega) h2
  refine ⟨hok, ?_⟩
  apply List.ext_getElem?
  intro j
  rw [Hp.get_toL hok]
  simp only [Hp.get,blt_iff]
  rcases Nat.lt_trichotomy j h.n with hj | hj | hj
  ·rw [qg (by rw [Hp.length_toL]; exact hj),Hp.get_toL ho]
   simp only [Hp.get,blt_iff,hj,decide_true,cond_true,show j < h.n + 1 by omega]
   rw [get_set x 12 _ _ _ ho.1 (by omega) (by omega),if_neg (by omega)]
  ·subst hj
   rw [qk (by rw [Hp.length_toL]; exact qf _),Hp.length_toL]
   simp only [Nat.sub_self,List.getElem?_cons_zero,show h.n < h.n + 1 by omega,decide_true,cond_true]
   rw [get_set x 12 _ _ _ ho.1 (by omega) (by omega),if_pos rfl]
  ·rw [qr (by simp [Hp.length_toL]; omega)]
   simp [show ¬ j < h.n + 1 by omega]
 ·simp [hn] at e
theorem Hp.more_ok {h h' : Hp} (ho : h.Ok) {k : Nat} (e : h.more k = some h') : h'.Ok ∧ h'.toL = h.toL ++ List.replicate k none := by
 unfold Hp.more at e
 by_cases hn : h.n + k ≤ 4096
 ·have : Nat.ble (h.n + k) 4096 = true := by rw [Nat.ble_eq]; exact hn
  simp only [this,cond_true,qa] at e
  subst e
  have hok : Hp.Ok ⟨h.t,h.n + k⟩ := ⟨ho.1,hn,fun i h1 h2 => ho.2.2 i (by have h1 : h.n + k ≤ i := h1; omega) h2⟩
  refine ⟨hok, ?_⟩
  apply List.ext_getElem?
  intro j
  rw [Hp.get_toL hok]
  simp only [Hp.get,blt_iff]
  by_cases hj : j < h.n
  ·rw [qg (by rw [Hp.length_toL]; exact hj),Hp.get_toL ho]
   simp only [Hp.get,blt_iff,hj,decide_true,cond_true,show j < h.n + k by omega]
  ·rw [qk (by rw [Hp.length_toL]; omega),Hp.length_toL,List.getElem?_replicate]
   by_cases hj2 : j < h.n + k
   ·simp only [hj2,decide_true,cond_true,show j - h.n < k by omega,if_true]
    exact ho.2.2 j (by omega) (by omega)
   ·simp [hj2,show ¬ j - h.n < k by omega]
 ·have : Nat.ble (h.n + k) 4096 = false := by
   rw [Bool.eq_false_iff]
   intro hh
   exact hn (by rwa [Nat.ble_eq] at hh)
  simp [this] at e
end Go.Am

/- The idealised run once more, over trees, for the kernel: what it comes to the run over lists comes to. Generic: over any program. -/
namespace Go.Am
abbrev HGet := Nat → Option (Option ABlk)
def atG (hg : HGet) : AVal → Option (List AVal)
 | .ipt cs => some cs
 | .eptr _ cs => some cs
 | .ptr b off => match hg b with
  | some (some (.cells cs)) => some (cs.drop off)
  | _ => none
 | _ => none
theorem atG_eq (H : Heap) (x : AVal) : atG (fun b => H[b]?) x = atA H x := by cases x <;> rfl
section
variable (P : Program)
def loadG (t : TypeId) (hg : HGet) (x : AVal) : Option AVal := (atG hg x).bind fun cs => partA P t cs 0
def sliceG (t : TypeId) (hg : HGet) (x : AVal) (lo hi mx : Option AVal) : Option AVal :=
 match P.underlying t,x with
 | some (.array n e),.ptr b off =>
  if (P.info? e).isSome ∧ mx.isNone then
   match hg b with
   | some (some (.cells cs)) =>
    if off + n * szOf P e ≤ cs.length then (boundA n n hi).bind fun h => (boundA 0 h lo).map fun l => .sl (szOf P e) b (off + l * szOf P e) (h - l) (n - l) true
    else none
   | _ => none
  else none
 | _,_ => sliceA P t [] x lo hi mx
theorem sliceG_eq (t : TypeId) (H : Heap) (x : AVal) (lo hi mx : Option AVal) : sliceG P t (fun b => H[b]?) x lo hi mx = sliceA P t H x lo hi mx := by
 unfold sliceG
 split
 ·rename_i n e b off hu
  simp only [sliceA,hu]
  rfl
 ·rename_i hne
  unfold sliceA
  split
  ·rfl
  ·rfl
  ·rename_i n e hu
   split
   ·split
    ·rename_i b off
     exact (hne n e b off hu rfl).elim
    ·rfl
    ·rfl
   ·rfl
  ·rfl
def lenG (t : TypeId) (hg : HGet) (x : AVal) : Option AVal :=
 match P.underlying t,x with
 | some .string,.str s => some (.int .i64 s.length)
 | some (.array _ _),.mapr _ => none
 | some (.array n _),_ => some (.int .i64 n)
 | some (.slice _),.nils => some (.int .i64 0)
 | some (.slice _),.list _ rows _ => some (.int .i64 rows.length)
 | some (.slice _),.sl _ _ _ len _ _ => some (.int .i64 len)
 | some (.map _ _),.nilm => some (.int .i64 0)
 | some (.map _ _),.mapr b => match hg b with
  | some (some (.mp es)) => some (.int .i64 es.length)
  | _ => none
 | _,_ => none
def lookupG (t : TypeId) (hg : HGet) (m x : AVal) (ok : Bool) : Option AVal :=
 match P.underlying t with
 | some (.map kt et) =>
  match keyKind P kt,zeroA P et with
  | some k,some z =>
   if keyOk k x then
    match m with
    | .nilm => some (if ok then .tup [z,.bool false] else z)
    | .mapr b =>
     match hg b with
     | some (some (.mp es)) =>
      match findA k x es 0 with
      | some (some (_,v)) => some (if ok then .tup [v,.bool true] else v)
      | some none => some (if ok then .tup [z,.bool false] else z)
      | none => none
     | _ => none
    | _ => none
   else none
  | _,_ => none
 | _ => none
inductive Ed where
 | nop
 | set (b : Nat) (x : Option ABlk)
 | push (x : ABlk)
 | mv (b : Nat) (x : ABlk)
def Ed.onL (H : Heap) : Ed → Heap
 | .nop => H
 | .set b x => H.set b x
 | .push x => H ++ [some x]
 | .mv b x => H.set b none ++ [some x]
noncomputable def Ed.onH (h : Hp) : Ed → Option Hp
 | .nop => some h
 | .set b x => some (h.set b x)
 | .push x => h.push (some x)
 | .mv b x => (h.set b none).push (some x)
theorem Ed.on_ok {h h' : Hp} (ho : h.Ok) : ∀ {e : Ed},e.onH h = some h' → h'.Ok ∧ h'.toL = e.onL h.toL
 | .nop,e => by simp only [Ed.onH,qa] at e; subst e; exact ⟨ho,rfl⟩
 | .set b x,e => by
  simp only [Ed.onH,qa] at e
  subst e
  exact ⟨Hp.set_ok ho b x,Hp.set_toL ho b x⟩
 | .push x,e => Hp.push_ok ho e
 | .mv b x,e => by
  obtain ⟨h1,h2⟩ := Hp.push_ok (Hp.set_ok ho b none) e
  exact ⟨h1,by rw [h2,Hp.set_toL ho]; rfl⟩
def storeG (lo : Nat) (t : TypeId) (hg : HGet) (x v : AVal) : Option Ed :=
 match x with
 | .ptr b off => match hg b with
  | some (some (.cells cs)) =>
   if lo ≤ b ∧ v.cells.length = szOf P t ∧ (P.info? t).isSome ∧ v.cells.all AVal.one ∧ off + v.cells.length ≤ cs.length then
    some (.set b (some (.cells (splice cs off v.cells))))
   else none
  | _ => none
 | _ => none
theorem storeG_eq (lo : Nat) (t : TypeId) (H : Heap) (x v : AVal) : (storeG P lo t (fun b => H[b]?) x v).map (Ed.onL H) = storeA P lo t H x v := by
 unfold storeG storeA
 cases x <;> first | rfl | skip
 rename_i b off
 simp only
 cases H[b]? with
 | none => rfl
 | some o => cases o with
  | none => rfl
  | some blk => cases blk with
   | mp es => rfl
   | it s pos => rfl
   | mi b since seen last => rfl
   | cells cs =>
    simp only [apply_ite (Option.map (Ed.onL H)),Option.map_none,Option.map_some]
    rfl
def mapUpdateG (lo : Nat) (t : TypeId) (hg : HGet) (m x v : AVal) : Option Ed :=
 match P.underlying t with
 | some (.map kt _) =>
  match keyKind P kt with
  | some k =>
   if keyOk k x then
    match m with
    | .mapr b =>
     if lo ≤ b then
      match hg b with
      | some (some (.mp es)) =>
       match findA k x es 0 with
       | some (some (i,_)) => some (.set b (some (.mp (es.set i (x,v)))))
       | some none => some (.set b (some (.mp (es ++ [(x,v)]))))
       | none => none
      | _ => none
     else none
    | _ => none
   else none
  | none => none
 | _ => none
theorem mapUpdateG_eq (lo : Nat) (t : TypeId) (H : Heap) (m x v : AVal) : (mapUpdateG P lo t (fun b => H[b]?) m x v).map (Ed.onL H) = mapUpdateA P lo t H m x v := by
 unfold mapUpdateG mapUpdateA
 cases P.underlying t with
 | none => rfl
 | some d =>
  cases d <;> first | rfl | skip
  rename_i kt et
  simp only
  cases keyKind P kt with
  | none => rfl
  | some k =>
   simp only [apply_ite (Option.map (Ed.onL H)),Option.map_none]
   congr 1
   cases m <;> first | rfl | skip
   rename_i b
   simp only [apply_ite (Option.map (Ed.onL H)),Option.map_none]
   congr 1
   cases H[b]? with
   | none => rfl
   | some o => cases o with
    | none => rfl
    | some blk => cases blk with
     | cells cs => rfl
     | it s pos => rfl
     | mi b since seen last => rfl
     | mp es =>
      simp only
      cases findA k x es 0 with
      | none => rfl
      | some q => cases q with
       | none => rfl
       | some y => rfl
def rowsG (hg : HGet) (sz : Nat) : AVal → Option (List (List AVal))
 | .nils => some []
 | .list s rows _ => if s = sz then some rows else none
 | .str s => if sz = 1 then some (s.map fun b => [.int .u8 b.toNat]) else none
 | .sl s b off len _ _ => if s = sz then
  match hg b with
  | some (some (.cells cs)) => if off + len * sz ≤ cs.length then some (chunk sz len (cs.drop off)) else none
  | _ => none
  else none
 | _ => none
theorem rowsG_eq (H : Heap) (sz : Nat) (x : AVal) : rowsG (fun b => H[b]?) sz x = rowsA H sz x := by cases x <;> rfl
def appendG (lo : Nat) (t u : TypeId) (hl : Nat) (hg : HGet) (s x : AVal) : Option (AVal × Ed) :=
 match P.underlying t with
 | some (.slice e) =>
  let sz := szOf P e
  if (P.info? e).isSome ∧ sz ≠ 0 ∧ notIntB P u = true ∧ zeroFits P e = true ∧ P.bytesOf e ≠ 0 then
   match rowsG hg sz x with
   | none => none
   | some rows =>
    let new := rows.flatten
    let n := rows.length
    if !(new.all AVal.one) then none else
    match s with
    | .nils =>
     if n = 0 then some (.nils,.nop)
     else if n * P.bytesOf e ≤ 140737488355328 then some (.sl sz hl 0 n n false,.push (.cells new))
     else none
    | .list s0 rs ex =>
     if s0 ≠ sz then none else
     if n = 0 then some (.list s0 rs ex,.nop)
     else if ex ∧ (rs.flatten).all AVal.one ∧ (rs.length + n) * P.bytesOf e ≤ 140737488355328 then some (.sl sz hl 0 (rs.length + n) (rs.length + n) false,.push (.cells (rs.flatten ++ new)))
     else none
    | .sl s0 b off len cap ex =>
     if s0 ≠ sz then none else
     match hg b with
     | some (some (.cells cs)) =>
      if off + len * sz ≤ cs.length then
       if n = 0 then some (.sl s0 b off len cap ex,.nop)
       else if len + n ≤ cap then
        if lo ≤ b ∧ off + (len + n) * sz ≤ cs.length then some (.sl sz b off (len + n) cap ex,.set b (some (.cells (splice cs (off + len * sz) new))))
        else none
       else if (len + n) * P.bytesOf e ≤ 140737488355328 then
        if ex then some (.sl sz hl 0 (len + n) (len + n) false,.push (.cells ((cs.drop off).take (len * sz) ++ new)))
        else if lo ≤ b ∧ off + len * sz = cs.length then some (.sl sz hl 0 (len + n) (len + n) false,.mv b (.cells (cs.drop off ++ new)))
        else none
       else none
      else none
     | _ => none
    | _ => none
  else none
 | _ => none
theorem appendG_eq (lo : Nat) (t u : TypeId) (H : Heap) (s x : AVal) : (appendG P lo t u H.length (fun b => H[b]?) s x).map (fun r => (r.1,r.2.onL H)) = appendA P lo t u H s x := by
 unfold appendG appendA
 cases P.underlying t with
 | none => rfl
 | some d =>
  cases d <;> first | rfl | skip
  rename_i e
  simp only [rowsG_eq,apply_ite (Option.map fun r : AVal × Ed => (r.1,r.2.onL H)),Option.map_none]
  congr 1
  cases rowsA H (szOf P e) x with
  | none => rfl
  | some rows =>
   simp only [apply_ite (Option.map fun r : AVal × Ed => (r.1,r.2.onL H)),Option.map_none]
   congr 1
   cases s <;> first | rfl | skip
   ·simp only [apply_ite (Option.map fun r : AVal × Ed => (r.1,r.2.onL H)),Option.map_none,Option.map_some]
    rfl
   ·simp only [apply_ite (Option.map fun r : AVal × Ed => (r.1,r.2.onL H)),Option.map_none,Option.map_some]
    rfl
   ·rename_i s0 b off len cap ex
    simp only [apply_ite (Option.map fun r : AVal × Ed => (r.1,r.2.onL H)),Option.map_none]
    congr 1
    cases H[b]? with
    | none => rfl
    | some o => cases o with
     | none => rfl
     | some blk => cases blk with
      | mp es => rfl
      | it s pos => rfl
      | mi b since seen last => rfl
      | cells cs =>
       simp only [apply_ite (Option.map fun r : AVal × Ed => (r.1,r.2.onL H)),Option.map_none,Option.map_some]
       rfl
end
def newG (S : AStat) (ev : Operand → AVal) : Op → Option (ABlk × (Nat → AVal))
 | .alloc t => allocA S.P t
 | .box _ x => boxA (ev x)
 | .buildSlice t len parts => buildSliceA S.P t len (parts.toList.map fun p => (p.1,ev p.2))
 | .makeSlice t l c => makeSliceA S.P t (ev l) (ev c)
 | .makeMap _ none => some (.mp [],fun id => .mapr id)
 | .range t x => rangeA S.P t (ev x)
 | _ => none
theorem newG_eq (S : AStat) (ρ : List AVal) (o : Op) : newG S (evalA S ρ) o = newA S ρ o := by
 cases o <;> first | rfl | (rename_i t r; cases r <;> rfl)
def qPick (ev : Operand → AVal) (c a b : Operand) : Option AVal :=
 match ev c with
 | .bool true => some (ev a)
 | .bool false => some (ev b)
 | _ => none
def qBuild (P : Program) (ev : Operand → AVal) (t : TypeId) (parts : Array (Nat × Operand)) : Option AVal := buildA P t (parts.toList.map fun p => (p.1,ev p.2))
def qBin (P : Program) (ev : Operand → AVal) (op : BinOp) (t : TypeId) (x y : Operand) : Option AVal := binA P op t (litB x || litB y) (ev x) (ev y)
def qIface (P : Program) (ev : Operand → AVal) (t : TypeId) (x : Operand) : Option AVal := if ifaceB P t then none else some (.iface t (ev x))
def qFunc (ev : Operand → AVal) (f : Fn) (first captured : Array Operand) : Option AVal := some (.fn f (first.toList.map ev) (captured.toList.map ev))
def qSlice (P : Program) (ev : Operand → AVal) (hg : HGet) (t : TypeId) (x : Operand) (lo hi mx : Option Operand) : Option AVal := sliceG P t hg (ev x) (lo.map ev) (hi.map ev) (mx.map ev)
def strOfG (P : Program) (s d : TypeId) (hg : HGet) (x : AVal) : Option AVal :=
 match P.underlying s,P.underlying d with
 | some (.slice e),some .string =>
  match P.underlying e,x with
  | some (.int .u8),.nils => some (.str [])
  | some (.int .u8),.list sz rows _ => if sz = 1 then (bytesOf? rows).map .str else none
  | some (.int .u8),.sl sz b off len _ _ =>
   if sz = 1 then
    match hg b with
    | some (some (.cells cs)) => if off + len ≤ cs.length then (bytesOf? (chunk 1 len (cs.drop off))).map .str else none
    | _ => none
   else none
  | _,_ => none
 | _,_ => none
def qConv (P : Program) (hg : HGet) (s d : TypeId) (x : AVal) : Option AVal :=
 match convA P s d x with
 | some v => some v
 | none => strOfG P s d hg x
def qExtract (ev : Operand → AVal) (x : Operand) (i : Nat) : Option AVal :=
 match ev x with
 | .tup vs => vs[i]?
 | _ => none
def qLen (P : Program) (ev : Operand → AVal) (hg : HGet) (args : Array Operand) (ts : Array TypeId) : Option AVal :=
 match ts[0]?,args[0]? with
 | some t,some x => lenG P t hg (ev x)
 | _,_ => none
def qMin (ev : Operand → AVal) (args : Array Operand) : Option AVal :=
 match args.toList.map ev with
 | [.int k x,.int _ y] => some (.int k (if y < x then y else x))
 | _ => none
def qMax (ev : Operand → AVal) (args : Array Operand) : Option AVal :=
 match args.toList.map ev with
 | [.int k x,.int _ y] => some (.int k (if x < y then y else x))
 | _ => none
def qBuiltin (P : Program) (ev : Operand → AVal) (hg : HGet) (b : Builtin) (args : Array Operand) (ts : Array TypeId) : Option AVal :=
 match b with
 | .len => qLen P ev hg args ts
 | .min => qMin ev args
 | .max => qMax ev args
 | _ => none
def qCall (P : Program) (ev : Operand → AVal) (hg : HGet) (c : Call) : Option AVal :=
 match c.callee with
 | .builtin b => qBuiltin P ev hg b c.args c.argTypes
 | _ => none
def quietG (S : AStat) (ev : Operand → AVal) (hg : HGet) (o : Op) : Option AVal :=
 match o with
 | .move x => some (ev x)
 | .assign x => some (ev x)
 | .pick c a b => qPick ev c a b
 | .build t parts => qBuild S.P ev t parts
 | .load t x => loadG S.P t hg (ev x)
 | .nilCheck x => nilCheckA (ev x)
 | .binOp op t x y _ => qBin S.P ev op t x y
 | .unOp op _ x => unA op (ev x)
 | .convert s d x => qConv S.P hg s d (ev x)
 | .makeInterface t x => qIface S.P ev t x
 | .makeFunc f first captured => qFunc ev f first captured
 | .slice t x lo hi mx => qSlice S.P ev hg t x lo hi mx
 | .fieldAddr t x f => fieldAddrA S.P t (ev x) f
 | .field t x f => fieldA S.P t (ev x) f
 | .indexAddr t x i => indexAddrA S.P t (ev x) (ev i)
 | .index t x i => indexA S.P t (ev x) (ev i)
 | .lookup t m x ok => lookupG S.P t hg (ev m) (ev x) ok
 | .extract x i => qExtract ev x i
 | .call c => qCall S.P ev hg c
 | .typeAssert x _ t ok => typeAssertA S.P (ev x) t ok
 | _ => none
theorem quietG_eq (S : AStat) (ρ : List AVal) (H : Heap) (o : Op) : quietG S (evalA S ρ) (fun b => H[b]?) o = quietA S ρ H o := by
 cases o with
 | load t x => simp only [quietG,quietA,loadG,loadA,atG_eq]
 | slice t x lo hi mx => simp only [quietG,quietA,qSlice,sliceG_eq]
 | call c =>
  obtain ⟨callee,args,ts⟩ := c
  cases callee with
  | value f => rfl
  | invoke r n => rfl
  | builtin b => cases b <;> rfl
 | _ => rfl
def readsG (ev : Operand → AVal) : Op → Option Nat
 | .load _ x => blkOf (ev x)
 | .lookup _ m _ _ => blkOf (ev m)
 | .slice _ x _ _ _ => blkOf (ev x)
 | .convert _ _ x => slBlk (ev x)
 | .call { callee := .builtin .len,args := args,.. } =>
  match args[0]? with
  | some x => match ev x with
   | .mapr b => some b
   | _ => none
  | none => none
 | _ => none
theorem readsG_eq (S : AStat) (ρ : List AVal) (o : Op) : readsG (evalA S ρ) o = readsA S ρ o := by
 cases o with
 | call c =>
  obtain ⟨callee,args,ts⟩ := c
  cases callee with
  | value f => rfl
  | invoke r n => rfl
  | builtin b => cases b <;> rfl
 | _ => rfl
def touchG (S : AStat) (ev : Operand → AVal) : Op → Option (List Nat)
 | .store _ x _ => some (blkOf (ev x)).toList
 | .mapUpdate _ m _ _ => some (blkOf (ev m)).toList
 | .insert _ m _ _ => some (blkOf (ev m)).toList
 | .next x _ => some (blkOf (ev x)).toList
 | .call { callee := .builtin .append,args := args,.. } =>
  match args[0]? with
  | some x => match ev x with
   | .sl _ b _ _ _ _ => some [b]
   | _ => some []
  | none => none
 | .call { callee := .value f,.. } =>
  match ev f with
  | .fn (.func g) _ _ => if stillB S g then some [] else none
  | _ => none
 | _ => none
def touchDG (S : AStat) (ev : Operand → AVal) (op : Op) (n : Nat) (g g' : Nat → Option (Option ABlk)) : Option (List Nat) := match touchG S ev op with
 | some l => some l
 | none => some (chgA n g g')
theorem touchG_eq (S : AStat) (ρ : List AVal) (o : Op) : touchG S (evalA S ρ) o = touchA S ρ o := by
 cases o with
 | call c =>
  obtain ⟨callee,args,ts⟩ := c
  cases callee with
  | value f => rfl
  | invoke r n => rfl
  | builtin b => cases b <;> rfl
 | _ => rfl
noncomputable def evalF (S : AStat) (r : Rg) : Operand → AVal
 | .tmp t => r.get t
 | .const v => constA v
 | .global g => match S.glob g with
  | some cs => .ipt cs
  | none => .junk
 | .func f => .fn (.func f) [] []
theorem evalF_eq (S : AStat) {r : Rg} (h : r.Ok) : evalF S r = evalA S r.toL := by
 funext x
 cases x with
 | tmp t => exact (Rg.get_toL h t).symm
 | _ => rfl
theorem getF_eq {h : Hp} (ho : h.Ok) : h.get = fun b => h.toL[b]? := funext fun b => (Hp.get_toL ho b).symm
abbrev CallT := Nat → FuncId → List AVal → Hp → Option (AVal × Hp)
abbrev ExecT := Nat → Code → Rg → Hp → Option (AExit × Rg × Hp)
def CallSim (ct : CallT) (cl : CallF) : Prop := ∀ lo f args h r h',h.Ok → ct lo f args h = some (r,h') → h'.Ok ∧ cl lo f args h.toL = some (r,h'.toL)
def ExecSim (rt : ExecT) (rl : ExecF) : Prop := ∀ lo c r h x r' h',r.Ok → h.Ok → rt lo c r h = some (x,r',h') → r'.Ok ∧ h'.Ok ∧ rl lo c r.toL h.toL = some (x,r'.toL,h'.toL)
noncomputable def guardF (ops : List Oper) (r : Rg) (o : Oper) : Option Bool :=
 match o.guard with
 | none => some true
 | some (j,want) =>
  match (ops[j]?).bind (·.dst) with
  | none => some false
  | some d =>
   match r.get? d with
   | none => some false
   | some (.bool b) => some (b == want)
   | some .junk => none
   | some _ => some false
theorem guardF_eq {ops : List Oper} {r : Rg} (h : r.Ok) (o : Oper) : guardF ops r o = guardA ops r.toL o := by
 unfold guardF guardA
 cases o.guard with
 | none => rfl
 | some p =>
  obtain ⟨j,w⟩ := p
  simp only
  cases (ops[j]?).bind (·.dst) with
  | none => rfl
  | some d =>
   simp only [Rg.get?_toL h]
   rfl
noncomputable def putF (r : Rg) (dst : Option Tmp) (v : AVal) : Rg :=
 match dst with
 | some d => r.set d v
 | none => r
theorem putF_ok {r : Rg} (h : r.Ok) (dst : Option Tmp) (v : AVal) : (putF r dst v).Ok ∧ (putF r dst v).toL = putA r.toL dst v := by
 cases dst with
 | none => exact ⟨h,rfl⟩
 | some d => exact ⟨Rg.set_ok h d v,Rg.set_toL h d v⟩
noncomputable def eStore (S : AStat) (lo : Nat) (r : Rg) (h : Hp) (t : TypeId) (x v : Operand) : Option (AVal × Hp) :=
 (storeG S.P lo t h.get (evalF S r x) (evalF S r v)).bind fun e => (e.onH h).map fun h' => (undefA,h')
noncomputable def eUpdate (S : AStat) (lo : Nat) (r : Rg) (h : Hp) (t : TypeId) (m k v : Operand) : Option (AVal × Hp) :=
 (mapUpdateG S.P lo t h.get (evalF S r m) (evalF S r k) (evalF S r v)).bind fun e => (e.onH h).map fun h' => (undefA,h')
noncomputable def eAppend (S : AStat) (lo : Nat) (r : Rg) (h : Hp) (args : Array Operand) (ts : Array TypeId) : Option (AVal × Hp) :=
 match args.toList.map (evalF S r),ts.toList with
 | [s,x],[t,u] => (appendG S.P lo t u h.n h.get s x).bind fun e => (e.2.onH h).map fun h' => (e.1,h')
 | _,_ => none
noncomputable def eCall (S : AStat) (call : CallT) (lo : Nat) (r : Rg) (h : Hp) (f : Operand) (args : Array Operand) : Option (AVal × Hp) :=
 match evalF S r f with
 | .fn (.func g) first captured =>
  match S.ext g (first ++ args.toList.map (evalF S r) ++ captured) with
  | some v => some (v,h)
  | none => call lo g (first ++ args.toList.map (evalF S r) ++ captured) h
 | _ => none
noncomputable def eInvoke (S : AStat) (call : CallT) (lo : Nat) (r : Rg) (h : Hp) (x : Operand) (name : String) (args : Array Operand) : Option (AVal × Hp) :=
 match evalF S r x with
 | .iface t v =>
  match S.meth t name,nk v with
  | some g,some (.p,_) => call lo g (v :: args.toList.map (evalF S r)) h
  | _,_ => match S.methV t name v with
   | some (g,v') => (S.ext g (v' :: args.toList.map (evalF S r))).map fun y => (y,h)
   | none => none
 | _ => none
noncomputable def eBuiltin (S : AStat) (lo : Nat) (r : Rg) (h : Hp) (b : Builtin) (args : Array Operand) (ts : Array TypeId) : Option (AVal × Hp) :=
 match b with
 | .append => eAppend S lo r h args ts
 | _ => none
noncomputable def eAny (S : AStat) (call : CallT) (lo : Nat) (r : Rg) (h : Hp) (c : Call) : Option (AVal × Hp) :=
 match c.callee with
 | .builtin b => eBuiltin S lo r h b c.args c.argTypes
 | .value f => eCall S call lo r h f c.args
 | .invoke x name => eInvoke S call lo r h x name c.args
noncomputable def effF (S : AStat) (call : CallT) (lo : Nat) (r : Rg) (h : Hp) (o : Op) : Option (AVal × Hp) :=
 match o with
 | .store t x v => eStore S lo r h t x v
 | .mapUpdate t m k v => eUpdate S lo r h t m k v
 | .insert t m k v => eUpdate S lo r h t m k v
 | .call c => eAny S call lo r h c
 | _ => none
theorem ed_map {x : Option Ed} {h h' : Hp} (ho : h.Ok) {v u : AVal} (e : (x.bind fun e => (e.onH h).map fun h' => (v,h')) = some (u,h')) :
 u = v ∧ h'.Ok ∧ x.map (Ed.onL h.toL) = some h'.toL := by
 rw [Option.bind_eq_some_iff] at e
 obtain ⟨ed,rfl,e⟩ := e
 rw [qd] at e
 obtain ⟨h1,h2,h3⟩ := e
 simp only [qe] at h3
 obtain ⟨rfl,rfl⟩ := h3
 obtain ⟨k1,k2⟩ := Ed.on_ok ho h2
 exact ⟨rfl,k1,by simp [k2]⟩
theorem effF_ok {S : AStat} {ct : CallT} {cl : CallF} (hc : CallSim ct cl) {lo : Nat} {r : Rg} {h h' : Hp} (hr : r.Ok) (ho : h.Ok) {op : Op} {v : AVal} (e : effF S ct lo r h op = some (v,h')) :
 h'.Ok ∧ effA S cl lo r.toL h.toL op = some (v,h'.toL) := by
 unfold effF at e
 split at e
 ·unfold eStore at e
  rw [evalF_eq S hr,getF_eq ho] at e
  obtain ⟨rfl,h1,h2⟩ := ed_map ho e
  rw [storeG_eq] at h2
  exact ⟨h1,by simp only [effA,h2,Option.map_some]⟩
 ·unfold eUpdate at e
  rw [evalF_eq S hr,getF_eq ho] at e
  obtain ⟨rfl,h1,h2⟩ := ed_map ho e
  rw [mapUpdateG_eq] at h2
  exact ⟨h1,by simp only [effA,h2,Option.map_some]⟩
 ·unfold eUpdate at e
  rw [evalF_eq S hr,getF_eq ho] at e
  obtain ⟨rfl,h1,h2⟩ := ed_map ho e
  rw [mapUpdateG_eq] at h2
  exact ⟨h1,by simp only [effA,h2,Option.map_some]⟩
 ·rename_i cl
  obtain ⟨callee,args,ts⟩ := cl
  unfold eAny at e
  simp only at e
  cases callee with
  | builtin b =>
   simp only [eBuiltin] at e
   split at e <;> first | (cases e; done) | skip
   unfold eAppend at e
   rw [evalF_eq S hr,getF_eq ho] at e
   split at e
   ·rename_i s x t u e1 e2
    rw [Option.bind_eq_some_iff] at e
    obtain ⟨ed,h1,e⟩ := e
    rw [qd] at e
    obtain ⟨h2,h3,h4⟩ := e
    simp only [qe] at h4
    obtain ⟨rfl,rfl⟩ := h4
    obtain ⟨k1,k2⟩ := Ed.on_ok ho h3
    refine ⟨k1, ?_⟩
    have := appendG_eq S.P lo t u h.toL s x
    rw [Hp.length_toL,h1] at this
    simp only [effA,e1,e2,← this,Option.map_some,k2]
   ·cases e
  | value f =>
   unfold eCall at e
   rw [evalF_eq S hr] at e
   simp only at e
   split at e
   ·rename_i g first captured e1
    simp only [effA,e1]
    split at e
    ·rename_i w hw
     simp only [qa,qe] at e
     obtain ⟨rfl,rfl⟩ := e
     exact ⟨ho,by rw [hw]⟩
    ·rename_i hw
     obtain ⟨k1,k2⟩ := hc _ _ _ _ _ _ ho e
     exact ⟨k1,by rw [hw]; exact k2⟩
   ·cases e
  | invoke x name =>
   unfold eInvoke at e
   rw [evalF_eq S hr] at e
   simp only at e
   split at e
   ·rename_i t w e1
    simp only [effA,e1]
    split at e
    ·rename_i g nb hm hn
     obtain ⟨k1,k2⟩ := hc _ _ _ _ _ _ ho e
     exact ⟨k1,by rw [hm,hn]; exact k2⟩
    ·rename_i hne
     split at e
     ·rename_i g w1 hm
      rw [qd] at e
      obtain ⟨y,h1,h2⟩ := e
      simp only [qe] at h2
      obtain ⟨rfl,rfl⟩ := h2
      refine ⟨ho, ?_⟩
      split
      ·rename_i h3 h4
       exact (hne _ _ h3 h4).elim
      ·rw [hm]
       simp only [h1,Option.map_some]
     ·cases e
   ·cases e
 ·cases e
noncomputable def opF (S : AStat) (call : CallT) (lo : Nat) (r : Rg) (h : Hp) (o : Oper) : Option (AVal × Hp) :=
 match quietG S (evalF S r) h.get o.op with
 | some v => some (v,h)
 | none =>
  match newG S (evalF S r) o.op with
  | some (blk,mk) => (h.push (some blk)).map fun h' => (mk h.n,h')
  | none => effF S call lo r h o.op
theorem opF_ok {S : AStat} {ct : CallT} {cl : CallF} (hc : CallSim ct cl) {lo : Nat} {r : Rg} {h h' : Hp} (hr : r.Ok) (ho : h.Ok) {o : Oper} {v : AVal} (e : opF S ct lo r h o = some (v,h')) :
 h'.Ok ∧ opA S cl lo r.toL h.toL o = some (v,h'.toL) := by
 unfold opF at e
 unfold opA
 rw [← quietG_eq,← newG_eq,← evalF_eq S hr,← getF_eq ho]
 split at e
 ·rename_i w hw
  simp only [qa,qe] at e
  obtain ⟨rfl,rfl⟩ := e
  exact ⟨ho,by rw [hw]⟩
 ·rename_i hw
  simp only [hw]
  split at e
  ·rename_i blk mk hn
   rw [qd] at e
   obtain ⟨h1,h2,h3⟩ := e
   simp only [qe] at h3
   obtain ⟨rfl,rfl⟩ := h3
   obtain ⟨k1,k2⟩ := Hp.push_ok ho h2
   exact ⟨k1,by simp only [hn,k2,Hp.length_toL]⟩
  ·rename_i hn
   obtain ⟨k1,k2⟩ := effF_ok hc hr ho e
   exact ⟨k1,by simp only [hn,k2]⟩
noncomputable def opsF (S : AStat) (call : CallT) (lo : Nat) (ops : List Oper) : List Oper → Rg → Hp → Option (Rg × Hp)
 | [],r,h => some (r,h)
 | o :: rest,r,h =>
  match guardF ops r o with
  | none => none
  | some false => opsF S call lo ops rest (putF r o.dst undefA) h
  | some true =>
   match opF S call lo r h o with
   | none => none
   | some (v,h') => opsF S call lo ops rest (putF r o.dst v) h'
theorem opsF_ok {S : AStat} {ct : CallT} {cl : CallF} (hc : CallSim ct cl) {lo : Nat} {ops : List Oper} : ∀ {l : List Oper} {r r' : Rg} {h h' : Hp},r.Ok → h.Ok → opsF S ct lo ops l r h = some (r',h') →
 r'.Ok ∧ h'.Ok ∧ opsA S cl lo ops l r.toL h.toL = some (r'.toL,h'.toL)
 | [],r,r',h,h',hr,ho,e => by
  simp only [opsF,qa,qe] at e
  obtain ⟨rfl,rfl⟩ := e
  exact ⟨hr,ho,rfl⟩
 | o :: l,r,r',h,h',hr,ho,e => by
  simp only [opsF,guardF_eq hr] at e
  simp only [opsA]
  split at e
  ·cases e
  ·rename_i hg
   obtain ⟨k1,k2⟩ := putF_ok hr o.dst undefA
   simp only [hg]
   rw [← k2]
   exact opsF_ok hc k1 ho e
  ·rename_i hg
   simp only [hg]
   split at e
   ·cases e
   ·rename_i v h1 hop
    obtain ⟨m1,m2⟩ := opF_ok hc hr ho hop
    obtain ⟨k1,k2⟩ := putF_ok hr o.dst v
    simp only [m2]
    rw [← k2]
    exact opsF_ok hc k1 m1 e
noncomputable def hideF (h : Hp) : List Nat → Hp
 | [] => h
 | b :: bs => hideF (h.set b none) bs
noncomputable def unhideF (h0 h : Hp) : List Nat → Hp
 | [] => h
 | b :: bs => unhideF h0 (h.set b ((h0.get b).getD none)) bs
theorem hideF_ok : ∀ (bs : List Nat) {h : Hp},h.Ok → (hideF h bs).Ok ∧ (hideF h bs).toL = hide h.toL bs
 | [],_,ho => ⟨ho,rfl⟩
 | b :: bs,h,ho => by
  have := hideF_ok bs (Hp.set_ok ho b none)
  rw [Hp.set_toL ho] at this
  exact this
theorem unhideF_ok {h0 : Hp} (h0o : h0.Ok) : ∀ (bs : List Nat) {h : Hp},h.Ok → (unhideF h0 h bs).Ok ∧ (unhideF h0 h bs).toL = unhide h0.toL h.toL bs
 | [],_,ho => ⟨ho,rfl⟩
 | b :: bs,h,ho => by
  have := unhideF_ok h0o bs (Hp.set_ok ho b ((h0.get b).getD none))
  rw [Hp.set_toL ho] at this
  refine ⟨this.1, ?_⟩
  show (unhideF h0 (h.set b ((h0.get b).getD none)) bs).toL = unhide h0.toL (h.toL.set b (h0.toL.getD b none)) bs
  rw [this.2,qi,Hp.get_toL h0o]
structure DrawOutF where
 reads : List (Nat × Nat)
 touches : List (Nat × Option (List Nat))
 r : Rg
 h : Hp
noncomputable def drawGoF (S : AStat) (call : CallT) (lo n0 : Nat) (ops : Array Oper) (B : List Nat) : List Oper → Nat → Rg → Hp → Option DrawOutF
 | [],_,r,h => some ⟨[],[],r,h⟩
 | o :: rest,k,r,h =>
  match guardF ops.toList r o with
  | none => none
  | some false => drawGoF S call lo n0 ops B rest (k + 1) (putF r o.dst undefA) h
  | some true =>
   if isNewB o.op then
    match newG S (evalF S r) o.op with
    | none => none
    | some (blk,mk) =>
     match h.get (n0 + k) with
     | some none => drawGoF S call lo n0 ops B rest (k + 1) (putF r o.dst (mk (n0 + k))) (h.set (n0 + k) (some blk))
     | _ => none
   else if isEffB o.op then
    match effF S call lo r (hideF h (hidden ops B n0 k)) o.op with
    | none => none
    | some (v,h') =>
     if h.n ≤ h'.n then
      match drawGoF S call lo n0 ops B rest (k + 1) (putF r o.dst v) (unhideF h h' (hidden ops B n0 k)) with
      | none => none
      | some x => some { x with touches := (k,touchDG S (evalF S r) o.op (hideF h (hidden ops B n0 k)).n (hideF h (hidden ops B n0 k)).get h'.get) :: x.touches }
     else none
   else
    match quietG S (evalF S r) h.get o.op with
    | none => none
    | some v =>
     match drawGoF S call lo n0 ops B rest (k + 1) (putF r o.dst v) h with
     | none => none
     | some x =>
      match readsG (evalF S r) o.op with
      | none => some x
      | some b => some { x with reads := (k,b) :: x.reads }
def DrawOutF.Ok (x : DrawOutF) : Prop := x.r.Ok ∧ x.h.Ok
noncomputable def DrawOutF.toL (x : DrawOutF) : DrawOut := ⟨x.reads,x.touches,x.r.toL,x.h.toL⟩
theorem drawGoF_ok {S : AStat} {ct : CallT} {cl : CallF} (hc : CallSim ct cl) {lo n0 : Nat} {ops : Array Oper} {B : List Nat} : ∀ {l : List Oper} {k : Nat} {r : Rg} {h : Hp} {x : DrawOutF},r.Ok → h.Ok → drawGoF S ct lo n0 ops B l k r h = some x →
 x.Ok ∧ drawGo S cl lo n0 ops B l k r.toL h.toL = some x.toL
 | [],k,r,h,x,hr,ho,e => by
  simp only [drawGoF,qa] at e
  subst e
  exact ⟨⟨hr,ho⟩,rfl⟩
 | o :: l,k,r,h,x,hr,ho,e => by
  simp only [drawGoF,guardF_eq hr] at e
  simp only [drawGo]
  split at e
  ·cases e
  ·rename_i hg
   obtain ⟨k1,k2⟩ := putF_ok hr o.dst undefA
   simp only [hg]
   rw [← k2]
   exact drawGoF_ok hc k1 ho e
  ·rename_i hg
   simp only [hg]
   split at e
   ·rename_i hn
    rw [if_pos hn]
    split at e
    ·cases e
    ·rename_i blk mk hnew
     rw [evalF_eq S hr,newG_eq] at hnew
     simp only [hnew]
     rw [Hp.get_toL ho]
     split at e
     ·rename_i hh
      simp only [hh]
      obtain ⟨k1,k2⟩ := putF_ok hr o.dst (mk (n0 + k))
      rw [← k2,← Hp.set_toL ho]
      exact drawGoF_ok hc k1 (Hp.set_ok ho _ _) e
     ·cases e
   ·rename_i hn
    rw [if_neg hn]
    split at e
    ·rename_i he
     rw [if_pos he]
     split at e
     ·cases e
     ·rename_i v h1 heff
      obtain ⟨g1,g2⟩ := hideF_ok (hidden ops B n0 k) ho
      obtain ⟨g3,g4⟩ := effF_ok hc hr g1 heff
      rw [g2] at g4
      simp only [g4]
      split at e
      ·rename_i hle
       rw [if_pos (by rw [Hp.length_toL,Hp.length_toL]; exact hle)]
       split at e
       ·cases e
       ·rename_i x1 hx1
        simp only [qa] at e
        subst e
        obtain ⟨g5,g6⟩ := unhideF_ok ho (hidden ops B n0 k) g3
        obtain ⟨k1,k2⟩ := putF_ok hr o.dst v
        obtain ⟨g7,g8⟩ := drawGoF_ok hc k1 g5 hx1
        rw [k2,g6] at g8
        refine ⟨g7, ?_⟩
        simp only [g8,DrawOutF.toL]
        rw [show touchDG S (evalF S r) o.op (hideF h (hidden ops B n0 k)).n (hideF h (hidden ops B n0 k)).get h1.get = touchD S r.toL o.op (hide h.toL (hidden ops B n0 k)) h1.toL by
         unfold touchDG touchD
         rw [evalF_eq S hr,touchG_eq,getF_eq g1,getF_eq g3,g2,← Hp.length_toL (h := hideF h (hidden ops B n0 k)),g2]
         cases touchA S r.toL o.op <;> rfl]
      ·cases e
    ·rename_i he
     rw [if_neg he]
     split at e
     ·cases e
     ·rename_i v hq
      rw [evalF_eq S hr,getF_eq ho,quietG_eq] at hq
      simp only [hq]
      split at e
      ·cases e
      ·rename_i x1 hx1
       obtain ⟨k1,k2⟩ := putF_ok hr o.dst v
       obtain ⟨g7,g8⟩ := drawGoF_ok hc k1 ho hx1
       rw [k2] at g8
       simp only [g8]
       rw [evalF_eq S hr,readsG_eq] at e
       split at e
       ·rename_i hrd
        simp only [qa] at e
        subst e
        exact ⟨g7,by simp only [hrd]⟩
       ·rename_i b hrd
        simp only [qa] at e
        subst e
        exact ⟨g7,by simp only [hrd,DrawOutF.toL]⟩
noncomputable def drawF (S : AStat) (call : CallT) (lo : Nat) (ops : Array Oper) (r : Rg) (h : Hp) : Option (Rg × Hp) :=
 let B := befs ops.toList []
 if regionOk ops B && decide (lo ≤ h.n) then
  match (if ops.any (fun o => isNewB o.op) then h.more ops.size else some h) with
  | none => none
  | some h1 =>
   match drawGoF S call lo h.n ops B ops.toList 0 r h1 with
   | none => none
   | some x => if apartB B x.reads x.touches then some (x.r,x.h) else none
 else none
theorem drawF_ok {S : AStat} {ct : CallT} {cl : CallF} (hc : CallSim ct cl) {lo : Nat} {ops : Array Oper} {r r' : Rg} {h h' : Hp} (hr : r.Ok) (ho : h.Ok) (e : drawF S ct lo ops r h = some (r',h')) :
 r'.Ok ∧ h'.Ok ∧ drawA S cl lo ops r.toL h.toL = some (r'.toL,h'.toL) := by
 unfold drawF at e
 unfold drawA
 simp only at e ⊢
 split at e
 ·rename_i hcond
  rw [Hp.length_toL,if_pos hcond]
  split at e
  ·cases e
  ·rename_i h1 hh1
   have key : h1.Ok ∧ h1.toL = (if ops.any (fun o => isNewB o.op) then h.toL ++ List.replicate ops.size none else h.toL) := by
    split at hh1
    ·rename_i ha
     rw [if_pos ha]
     exact Hp.more_ok ho hh1
    ·rename_i ha
     rw [if_neg ha]
     simp only [qa] at hh1
     subst hh1
     exact ⟨ho,rfl⟩
   rw [← key.2]
   split at e
   ·cases e
   ·rename_i x hx
    obtain ⟨⟨k1,k2⟩,k3⟩ := drawGoF_ok hc hr key.1 hx
    simp only [k3]
    split at e
    ·rename_i ha
     simp only [qa,qe] at e
     obtain ⟨rfl,rfl⟩ := e
     exact ⟨k1,k2,if_pos ha⟩
    ·cases e
 ·cases e
def frzG (n0 : Nat) (hg : HGet) : Bool → Nat → AVal → Option AVal
 | _,0,_ => none
 | top,k + 1,a =>
  match a with
  | .agg cs => (frzs (frzG n0 hg top k) cs).map .agg
  | .tup cs => (frzs (frzG n0 hg top k) cs).map .tup
  | .iface t v => (frzG n0 hg top k v).map (.iface t)
  | .fn f x y => match frzs (frzG n0 hg top k) x,frzs (frzG n0 hg top k) y with
   | some x',some y' => some (.fn f x' y')
   | _,_ => none
  | .ptr b off =>
   if b < n0 then (if top then some (.ptr b off) else none) else
   match hg b with
   | some (some (.cells cs)) => (frzs (frzG n0 hg false k) (cs.drop off)).map .ipt
   | _ => none
  | .sl sz b off len cap ex =>
   if b < n0 then (if top then some (.sl sz b off len cap ex) else none) else
   match hg b with
   | some (some (.cells cs)) =>
    if off + len * sz ≤ cs.length then (frzss (frzG n0 hg false k) (chunk sz len (cs.drop off))).map fun rows => .list sz rows (ex && cap == len) else none
   | _ => none
  | .mapr b => if b < n0 ∧ top then some (.mapr b) else none
  | a => some a
theorem frzG_eq (n0 : Nat) (H : Heap) : ∀ (k : Nat) (top : Bool),frzG n0 (fun b => H[b]?) top k = frz n0 H top k
 | 0,top => by funext a; simp only [frzG,frz]
 | k + 1,top => by
  funext a
  cases a <;> simp only [frzG,frz,frzG_eq n0 H k top,frzG_eq n0 H k false] <;> rfl
def resultG (S : AStat) (ev : Nat → AVal) (hg : HGet) : ResultVar → Option AVal
 | .tmp t => some (ev t)
 | .cell a t => loadG S.P t hg (ev a)
def resultsG (S : AStat) (ev : Nat → AVal) (hg : HGet) : List ResultVar → Option (List AVal)
 | [] => some []
 | r :: rs =>
  match resultG S ev hg r with
  | none => none
  | some v => match resultsG S ev hg rs with
   | none => none
   | some vs => some (v :: vs)
theorem resultsG_eq (S : AStat) {r : Rg} (hr : r.Ok) {h : Hp} (ho : h.Ok) : ∀ l,resultsG S r.get h.get l = resultsA S r.toL h.toL l
 | [] => rfl
 | x :: xs => by
  have : resultG S r.get h.get x = resultA S r.toL h.toL x := by
   cases x with
   | tmp t => simp only [resultG,resultA,Rg.get_toL hr]
   | cell a t => simp only [resultG,resultA,Rg.get_toL hr,getF_eq ho,loadG,loadA,atG_eq]
  simp only [resultsG,resultsA,this,resultsG_eq S hr ho xs]
  rfl
def Pol.loN (p : Pol) (lo n : Nat) : Nat :=
 match p with
 | .keep => lo
 | .pure => n
 | .fresh => max lo n
noncomputable def finishF (p : Pol) (h0 : Hp) (v : AVal) (h : Hp) : Option (AVal × Hp) :=
 match p with
 | .keep => some (v,h)
 | .pure => (frzG h0.n h.get true 64 v).map fun v' => (v',h0)
 | .fresh => some (v,h)
theorem finishF_ok {p : Pol} {h0 h h' : Hp} {v r : AVal} (ho0 : h0.Ok) (ho : h.Ok) (e : finishF p h0 v h = some (r,h')) : h'.Ok ∧ finish p h0.toL v h.toL = some (r,h'.toL) := by
 cases p with
 | keep =>
  simp only [finishF,qa,qe] at e
  obtain ⟨rfl,rfl⟩ := e
  exact ⟨ho,rfl⟩
 | pure =>
  simp only [finishF] at e
  rw [qd] at e
  obtain ⟨v,e1,e2⟩ := e
  simp only [qe] at e2
  obtain ⟨rfl,rfl⟩ := e2
  rw [getF_eq ho,frzG_eq,← Hp.length_toL] at e1
  exact ⟨ho0,by simp only [finish,e1,Option.map_some]⟩
 | fresh =>
  simp only [finishF,qa,qe] at e
  obtain ⟨rfl,rfl⟩ := e
  exact ⟨ho,rfl⟩
abbrev HookT := Nat → List AVal → Hp → Option (AVal × Hp)
noncomputable def callF (S : AStat) (HT : FuncId → Option HookT) (rec : ExecT) : CallT := fun lo f args h =>
 match HT f with
 | some hk => hk lo args h
 | none =>
  match S.P.funcs[f]? with
  | none => none
  | some fn =>
   match fn.body with
   | none => none
   | some body =>
    bif Nat.ble args.length fn.ntmps && Nat.ble fn.ntmps 512 then
     match rec ((S.pol f).loN lo h.n) body (Rg.frame args fn.ntmps) h with
     | none => none
     | some (.exit _,_,_) => none
     | some (_,r,h') =>
      match resultsG S r.get h'.get fn.results.toList with
      | none => none
      | some vs => finishF (S.pol f) h (tupled vs) h'
    else none
def HookSim (S : AStat) (HT : FuncId → Option HookT) : Prop := ∀ f,match HT f,S.hook f with
 | none,none => True
 | some t,some l => ∀ lo args h r h',h.Ok → t lo args h = some (r,h') → h'.Ok ∧ l lo args h.toL = some (r,h'.toL)
 | _,_ => False
theorem callF_ok {S : AStat} {HT : FuncId → Option HookT} (hH : HookSim S HT) {rt : ExecT} {rl : ExecF} (hs : ExecSim rt rl) : CallSim (callF S HT rt) (callA S rl) := by
 intro lo f args h r h' ho e
 unfold callF at e
 unfold callA
 have hf := hH f
 split at e
 ·rename_i hk hhk
  rw [hhk] at hf
  cases hl : S.hook f with
  | none => rw [hl] at hf; exact hf.elim
  | some l =>
   rw [hl] at hf
   exact hf lo args h r h' ho e
 ·rename_i hhk
  rw [hhk] at hf
  cases hl : S.hook f with
  | some l => rw [hl] at hf; exact hf.elim
  | none =>
   simp only
   split at e
   ·cases e
   ·rename_i fn hfn
    simp only [hfn]
    split at e
    ·cases e
    ·rename_i body hb
     simp only [hb]
     cases hcond : (Nat.ble args.length fn.ntmps && Nat.ble fn.ntmps 512) with
     | false => rw [hcond] at e; cases e
     | true =>
      rw [hcond] at e
      simp only [cond_true] at e
      simp only [qj,Nat.ble_eq] at hcond
      split at e
      ·cases e
      ·cases e
      ·rename_i x r1 h1 hne hrec
       obtain ⟨k1,k2,k3⟩ := hs _ _ _ _ _ _ _ (frame_ok args fn.ntmps hcond.2) ho hrec
       rw [frame_toL args fn.ntmps hcond.2 hcond.1] at k3
       have hlo : (S.pol f).loN lo h.n = (S.pol f).lo lo h.toL := by
        cases S.pol f <;> simp only [Pol.loN,Pol.lo,Hp.length_toL]
       rw [hlo] at k3
       simp only [k3]
       rw [resultsG_eq S k1 k2] at e
       cases x with
       | exit i => exact (hne i rfl).elim
       | normal =>
        split at e
        ·cases e
        ·rename_i vs hvs
         simp only [hvs]
         exact finishF_ok ho k2 e
       | ret =>
        split at e
        ·cases e
        ·rename_i vs hvs
         simp only [hvs]
         exact finishF_ok ho k2 e
noncomputable def stSeq (rec : ExecT) (lo : Nat) (a b : Code) (r : Rg) (h : Hp) : Option (AExit × Rg × Hp) :=
 match rec lo a r h with
 | some (.normal,r',h') => rec lo b r' h'
 | x => x
noncomputable def stCond (S : AStat) (rec : ExecT) (lo : Nat) (x : Operand) (a b : Code) (r : Rg) (h : Hp) : Option (AExit × Rg × Hp) :=
 match evalF S r x with
 | .bool true => rec lo a r h
 | .bool false => rec lo b r h
 | _ => none
noncomputable def stBlock (rec : ExecT) (lo id : Nat) (b : Code) (r : Rg) (h : Hp) : Option (AExit × Rg × Hp) :=
 match rec lo b r h with
 | some (.exit i,r',h') => if i = id then some (.normal,r',h') else some (.exit i,r',h')
 | x => x
noncomputable def stLoop (rec : ExecT) (lo : Nat) (b : Code) (r : Rg) (h : Hp) : Option (AExit × Rg × Hp) :=
 match rec lo b r h with
 | some (.normal,r',h') => rec lo (.loop b) r' h'
 | x => x
noncomputable def stRegion (S : AStat) (HT : FuncId → Option HookT) (rec : ExecT) (lo : Nat) (ops : Array Oper) (draw : Bool) (r : Rg) (h : Hp) : Option (AExit × Rg × Hp) :=
 if draw then (drawF S (callF S HT rec) lo ops r h).map fun x => (.normal,x.1,x.2)
 else (opsF S (callF S HT rec) lo ops.toList ops.toList r h).map fun x => (.normal,x.1,x.2)
noncomputable def stepF (S : AStat) (HT : FuncId → Option HookT) (rec : ExecT) : ExecT := fun lo c r h =>
 match c with
 | .skip => some (.normal,r,h)
 | .label _ => some (.normal,r,h)
 | .ret => some (.ret,r,h)
 | .exit id => some (.exit id,r,h)
 | .seq a b => stSeq rec lo a b r h
 | .cond x a b => stCond S rec lo x a b r h
 | .block id b => stBlock rec lo id b r h
 | .loop b => stLoop rec lo b r h
 | .region _ ops draw => stRegion S HT rec lo ops draw r h
 | _ => none
theorem stepF_ok {S : AStat} {HT : FuncId → Option HookT} (hH : HookSim S HT) {rt : ExecT} {rl : ExecF} (hs : ExecSim rt rl) : ExecSim (stepF S HT rt) (stepA S rl) := by
 intro lo c r h x r' h' hr ho e
 have triv : ∀ {y : AExit},some (y,r,h) = some (x,r',h') → r'.Ok ∧ h'.Ok ∧ (some (y,r.toL,h.toL) : Option (AExit × List AVal × Heap)) = some (x,r'.toL,h'.toL) := by
  intro y hy
  simp only [qa,qe] at hy
  obtain ⟨rfl,rfl,rfl⟩ := hy
  exact ⟨hr,ho,rfl⟩
 unfold stepF at e
 unfold stepA
 split at e
 ·exact triv e
 ·exact triv e
 ·exact triv e
 ·exact triv e
 ·rename_i a b
  unfold stSeq at e
  simp only
  split at e
  ·rename_i r1 h1 e1
   obtain ⟨k1,k2,k3⟩ := hs _ _ _ _ _ _ _ hr ho e1
   simp only [k3]
   exact hs _ _ _ _ _ _ _ k1 k2 e
  ·rename_i hne
   obtain ⟨k1,k2,k3⟩ := hs _ _ _ _ _ _ _ hr ho e
   refine ⟨k1,k2, ?_⟩
   simp only [k3]
   cases x with
   | normal => exact (hne _ _ e).elim
   | _ => rfl
 ·rename_i y a b
  unfold stCond at e
  rw [evalF_eq S hr] at e
  simp only
  split at e
  ·rename_i hy
   simp only [hy]
   exact hs _ _ _ _ _ _ _ hr ho e
  ·rename_i hy
   simp only [hy]
   exact hs _ _ _ _ _ _ _ hr ho e
  ·cases e
 ·rename_i id b
  unfold stBlock at e
  simp only
  split at e
  ·rename_i i r1 h1 e1
   obtain ⟨k1,k2,k3⟩ := hs _ _ _ _ _ _ _ hr ho e1
   simp only [k3]
   split at e
   ·rename_i hi
    simp only [qa,qe] at e
    obtain ⟨rfl,rfl,rfl⟩ := e
    exact ⟨k1,k2,by rw [if_pos hi]⟩
   ·rename_i hi
    simp only [qa,qe] at e
    obtain ⟨rfl,rfl,rfl⟩ := e
    exact ⟨k1,k2,by rw [if_neg hi]⟩
  ·rename_i hne
   obtain ⟨k1,k2,k3⟩ := hs _ _ _ _ _ _ _ hr ho e
   refine ⟨k1,k2, ?_⟩
   simp only [k3]
   cases x with
   | exit i => exact (hne _ _ _ e).elim
   | _ => rfl
 ·rename_i b
  unfold stLoop at e
  simp only
  split at e
  ·rename_i r1 h1 e1
   obtain ⟨k1,k2,k3⟩ := hs _ _ _ _ _ _ _ hr ho e1
   simp only [k3]
   exact hs _ _ _ _ _ _ _ k1 k2 e
  ·rename_i hne
   obtain ⟨k1,k2,k3⟩ := hs _ _ _ _ _ _ _ hr ho e
   refine ⟨k1,k2, ?_⟩
   simp only [k3]
   cases x with
   | normal => exact (hne _ _ e).elim
   | _ => rfl
 ·rename_i id ops draw
  unfold stRegion at e
  simp only
  split at e
  ·rename_i hd
   rw [qd] at e
   obtain ⟨⟨r1,h1⟩,e1,e2⟩ := e
   simp only [qe] at e2
   obtain ⟨rfl,rfl,rfl⟩ := e2
   obtain ⟨k1,k2,k3⟩ := drawF_ok (callF_ok hH hs) hr ho e1
   exact ⟨k1,k2,by rw [if_pos hd,k3]; rfl⟩
  ·rename_i hd
   rw [qd] at e
   obtain ⟨⟨r1,h1⟩,e1,e2⟩ := e
   simp only [qe] at e2
   obtain ⟨rfl,rfl,rfl⟩ := e2
   obtain ⟨k1,k2,k3⟩ := opsF_ok (callF_ok hH hs) hr ho e1
   exact ⟨k1,k2,by rw [if_neg hd,k3]; rfl⟩
 ·cases e
noncomputable def execF (S : AStat) (HT : FuncId → Option HookT) (n : Nat) : ExecT := Nat.rec (fun _ _ _ _ => none) (fun _ ih => stepF S HT ih) n
theorem execF_ok {S : AStat} {HT : FuncId → Option HookT} (hH : HookSim S HT) : ∀ n,ExecSim (execF S HT n) (execA S n)
 | 0 => fun _ _ _ _ _ _ _ _ _ e => by cases e
 | n + 1 => stepF_ok hH (execF_ok hH n)
end Go.Am

/- A call that was run where nothing is one's own serves wherever its arguments lead to nothing of one's own: what was there stays. Generic: over any program. -/
namespace Go.Am
open Go.RowKit
mutual
def AVal.bare : AVal → Bool
 | .agg cs => baresA cs
 | .tup cs => baresA cs
 | .iface _ v => v.bare
 | .fn _ x y => baresA x && baresA y
 | .ptr _ _ => false
 | .sl _ _ _ _ _ _ => false
 | .mapr _ => false
 | _ => true
def baresA : List AVal → Bool
 | [] => true
 | a :: as => a.bare && baresA as
end
mutual
theorem bare_V {c c' : Cx} (h : Ext c.pure c'.pure) : ∀ (a : AVal) (v : Value),a.bare = true → V c a v → V c' a v
 | .bool b,v,_,hv => by simpa [V] using hv
 | .int k n,v,_,hv => by simpa [V] using hv
 | .str s,v,_,hv => by simpa [V] using hv
 | .agg cs,v,hb,hv => by
  simp only [V] at hv ⊢
  obtain ⟨vs,e,h1⟩ := hv
  exact ⟨vs,e,bares_V h cs vs hb h1⟩
 | .nilp,v,_,hv => by simpa [V] using hv
 | .ptr _ _,_,hb,_ => by simp [AVal.bare] at hb
 | .ipt cs,v,_,hv => by
  simp only [V] at hv ⊢
  obtain ⟨B,off,vs,e,hI,ha,hvs⟩ := hv
  exact ⟨B,off,vs,e,h.I _ hI,At.ext h hI ha,Vs_ext h cs vs hvs⟩
 | .eptr id cs,v,_,hv => by
  simp only [V] at hv ⊢
  obtain ⟨B,o,vs,hn,e1,e,hI,ha,hvs,ca,ta,hc⟩ := hv
  have ht : c'.θ = c.θ := h.θ
  rw [ht]
  exact ⟨B,o,vs,hn,e1,e,h.I _ hI,At.ext h hI ha,Vs_ext h cs vs hvs,ca,ta,by rw [show c'.w.heap[B]? = c.w.heap[B]? from h.kept _ hI]; exact hc⟩
 | .hnd b off,v,_,hv => by simpa [V] using hv
 | .nils,v,_,hv => by simpa [V] using hv
 | .list sz rows ex,v,_,hv => by
  simp only [V] at hv ⊢
  obtain ⟨a,cap,vs,e,hc,hx,hm,hvs⟩ := hv
  exact ⟨a,cap,vs,e,hc,hx,hm.imp_right fun k => ⟨k.1,h.I _ k.2.1,At.ext h k.2.1 k.2.2⟩,Vss_ext h sz rows vs hvs⟩
 | .sl _ _ _ _ _ _,_,hb,_ => by simp [AVal.bare] at hb
 | .nilm,v,_,hv => by simpa [V] using hv
 | .mapr _,_,hb,_ => by simp [AVal.bare] at hb
 | .fn f x y,v,hb,hv => by
  simp only [AVal.bare,qj] at hb
  simp only [V] at hv ⊢
  obtain ⟨vs,us,e,h1,h2⟩ := hv
  exact ⟨vs,us,e,bares_V h x vs hb.1 h1,bares_V h y us hb.2 h2⟩
 | .nilf,v,_,hv => by simpa [V] using hv
 | .iface t a,v,hb,hv => by
  simp only [V] at hv ⊢
  obtain ⟨u,e,hu⟩ := hv
  exact ⟨u,e,bare_V h a u hb hu⟩
 | .nili,v,_,hv => by simpa [V] using hv
 | .tup cs,v,hb,hv => by
  simp only [V] at hv ⊢
  obtain ⟨vs,e,h1⟩ := hv
  exact ⟨vs,e,bares_V h cs vs hb h1⟩
 | .junk,v,_,_ => by simp [V]
theorem bares_V {c c' : Cx} (h : Ext c.pure c'.pure) : ∀ (as : List AVal) (vs : List Value),baresA as = true → Vs c as vs → Vs c' as vs
 | [],vs,_,hv => by simpa [Vs] using hv
 | a :: as,vs,hb,hv => by
  simp only [baresA,qj] at hb
  simp only [Vs] at hv ⊢
  obtain ⟨v,us,e,h1,h2⟩ := hv
  exact ⟨v,us,e,bare_V h a v hb.1 h1,bares_V h as us hb.2 h2⟩
end
theorem pure_rel {c : Cx} {H : Heap} (hR : Rel c H) : Rel c.pure [] where
 blk := fun b blk h => by simp at h
 inj := fun b b' blk blk' B base base' h => by simp at h
 fresh := fun _ _ => rfl
 lt := hR.lt
theorem pure_pure (c : Cx) : Ext c.pure c.pure.pure := ⟨(fun _ _ h => by cases h),rfl,fun _ h => h,fun _ _ => rfl,fun _ _ _ h => h⟩
theorem glob_pure {S : AStat} {c : Cx} (hG : GlobOk S c) : GlobOk S c.pure := ⟨fun g cs hg => bare_V (pure_pure c) _ _ rfl (hG.v g cs hg),hG.t⟩
theorem pure_back {c : Cx} {H : Heap} (hR : Rel c H) {c1 : Cx} {H1 : Heap} (hT : Tr c.pure [] c1 H1) (hR1 : Rel c1 H1) (lo : Nat) {r : AVal} {v : Value} (hb : r.bare = true) (hv : V c1 r v) :
 ∃ c',c'.w = c1.w ∧ Rel c' H ∧ Tr c H c' H ∧ Low lo c H c' H ∧ V c' r v := by
 have hframe : ∀ B,B < c.w.heap.size → c1.w.heap[B]? = c.w.heap[B]? := fun B hB => hT.frame B hB (fun ⟨b,blk,base,h,_⟩ => by simp at h)
 let c' : Cx := { c with w := c1.w,I := fun B => c.I B ∨ (c.w.heap.size ≤ B ∧ c1.I B) }
 have hext : Ext c c' := ⟨fun _ _ h => h,rfl,fun _ h => .inl h,fun B hB => hframe B (hR.lt B hB),fun B t n h => by
  have hlt : B < c.w.heap.size := by
   rcases qm B c.w.heap.size with h1 | h1
   ·exact h1
   ·simp [World.shape?,Array.getElem?_eq_none h1] at h
  show c1.w.shape? B = _
  rw [shape_of_block (w := c.w) (hframe B hlt)]
  exact h⟩
 refine ⟨c',rfl,⟨?_,hR.inj,hR.fresh, ?_⟩,⟨hext,hT.size,fun B hB _ => hframe B hB,fun B _ h => h, ?_,hT.os,hT.tape,hT.output⟩,⟨?_,fun _ _ h => h,qf _⟩, ?_⟩
 ·intro b blk hb
  obtain ⟨B,base,h1,h2,h3,h4⟩ := hR.blk b blk hb
  refine ⟨B,base,h1, ?_,qu h3 hT.size,h4.ext hext (hframe B h3)⟩
  rintro (h | ⟨h,_⟩)
  ·exact h2 h
  ·omega
 ·rintro B (h | ⟨_,h⟩)
  ·exact qu (hR.lt B h) hT.size
  ·exact hR1.lt B h
 ·rintro B hB (h | ⟨h,_⟩)
  ·exact .inl h
  ·omega
 ·intro b blk _ hH
  refine ⟨hH,fun B base hi => ?_⟩
  obtain ⟨B',base',h1,_,h2,_⟩ := hR.blk b blk hH
  rw [hi] at h1
  simp only [qa,qe] at h1
  obtain ⟨rfl,rfl⟩ := h1
  exact hframe _ h2
 ·refine bare_V (c := c1) (c' := c') ⟨(fun _ _ h => by cases h),hT.ext.θ.symm, ?_,fun _ _ => rfl,fun _ _ _ h => h⟩ r v hb hv
  intro B hB
  rcases qm B c.w.heap.size with h | h
  ·rcases hT.imm B h hB with h1 | ⟨b,blk,base,h1,_⟩
   ·exact .inl h1
   ·simp at h1
  ·exact .inr ⟨h,hB⟩
theorem lift_bare {S : AStat} {f : FuncId} {av : List AVal} {r : AVal} (ha : baresA av = true) (hr : r.bare = true)
 (h : ∀ c vs,Rel c [] → GlobOk S c → Vs c av vs → ∃ H1,Calls S.P f vs.toArray c.w (CallPost 0 c [] r H1)) :
 ∀ lo c H vs,Rel c H → GlobOk S c → Vs c av vs → Calls S.P f vs.toArray c.w (CallPost lo c H r H) := by
 intro lo c H vs hR hG hv
 obtain ⟨H1,h1⟩ := h c.pure vs (pure_rel hR) (glob_pure hG) (bares_V (pure_pure c) _ _ ha hv)
 refine h1.mono fun e w' hp => ?_
 obtain ⟨v,c1,rfl,rfl,g1,g2,_,g3⟩ := hp
 obtain ⟨c',e1,k1,k2,k3,k4⟩ := pure_back hR g2 g1 lo hr g3
 exact ⟨v,c',rfl,e1,k1,k2,k3,k4⟩
end Go.Am

/- The shelf's contracts as hooks: what was there stays; what is returned leads to nothing, or to new blocks that nothing turns. Generic: over any program. -/
namespace Go.Am
open Go.RowKit
def Cx.behind (c : Cx) (w' : World) (N : Nat → Prop) : Cx := { c with w := w',I := fun B => c.I B ∨ N B }
theorem Rel.behind {c : Cx} {H : Heap} (hR : Rel c H) {w' : World} (hb : Below c.w.heap.size c.w w') (lo : Nat) (N : Nat → Prop) (hN : ∀ B,N B → c.w.heap.size ≤ B ∧ B < w'.heap.size) :
 Rel (c.behind w' N) H ∧ Tr c H (c.behind w' N) H ∧ Low lo c H (c.behind w' N) H := by
 have hext : Ext c (c.behind w' N) := by
  refine ⟨fun _ _ h => h,rfl,fun B h => .inl h,fun B h => hb.block B (hR.lt B h),fun B t n hs => ?_⟩
  have hlt : B < c.w.heap.size := by
   rcases qm B c.w.heap.size with h1 | h1
   ·exact h1
   ·simp [World.shape?,Array.getElem?_eq_none h1] at hs
  show w'.shape? B = some (t,n)
  rw [shape_of_block (w := c.w) (hb.block B hlt)]
  exact hs
 refine ⟨⟨fun b blk hH => ?_,hR.inj,hR.fresh,fun B hB => ?_⟩,⟨hext,hb.size,fun B hB _ => hb.block B hB,fun B _ h => h,fun B hB h => ?_,hb.os,hb.tape,hb.output⟩,⟨fun b blk _ hH => ⟨hH,fun B base hi => ?_⟩,fun b _ h => h,qf _⟩⟩
 ·obtain ⟨B,base,h1,h2,h3,h4⟩ := hR.blk b blk hH
  refine ⟨B,base,h1, ?_,qu h3 hb.size,h4.ext hext (hb.block B h3)⟩
  rintro (h5 | h5)
  ·exact h2 h5
  ·have := (hN B h5).1
   omega
 ·rcases hB with h | h
  ·exact qu (hR.lt B h) hb.size
  ·exact (hN B h).2
 ·rcases h with h | h
  ·exact .inl h
  ·have := (hN B h).1
   omega
 ·obtain ⟨B',base',h1,_,h3,_⟩ := hR.blk b blk hH
  rw [hi] at h1
  cases h1
  exact hb.block B h3
theorem hook_of {P : Program} {f : FuncId} {vs : Array Value} {c : Cx} {H : Heap} {lo : Nat} {r : AVal} (hR : Rel c H)
 (h : Calls P f vs c.w fun e w' => ∃ u N,e = .returned u ∧ Below c.w.heap.size c.w w' ∧ (∀ B,N B → c.w.heap.size ≤ B ∧ B < w'.heap.size) ∧ V (c.behind w' N) r u) : Calls P f vs c.w (CallPost lo c H r H) := by
 refine h.mono ?_
 rintro e w' ⟨u,N,rfl,hb,hN,hv⟩
 obtain ⟨h1,h2,h3⟩ := hR.behind hb lo N hN
 exact ⟨u,_,rfl,rfl,h1,h2,h3,hv⟩
open Go.Lib in
mutual
def litEq : AVal → AVal → Bool
 | .str a,.str b => a == b
 | .int k a,.int j b => k == j && a == b
 | .bool a,.bool b => a == b
 | .agg a,.agg b => litEqs a b
 | .ipt a,.ipt b => litEqs a b
 | .tup a,.tup b => litEqs a b
 | .list n a x,.list m b y => Nat.beq n m && x == y && litRows a b
 | .nils,.nils => true
 | .nilp,.nilp => true
 | .nili,.nili => true
 | _,_ => false
def litEqs : List AVal → List AVal → Bool
 | [],[] => true
 | a :: as,b :: bs => litEq a b && litEqs as bs
 | _,_ => false
def litRows : List (List AVal) → List (List AVal) → Bool
 | [],[] => true
 | a :: as,b :: bs => litEqs a b && litRows as bs
 | _,_ => false
end
mutual
theorem litEq_is : ∀ {a b : AVal},litEq a b = true → a = b
 | a,b,h => by
  unfold litEq at h
  split at h
  ·rw [beq_iff_eq.1 h]
  ·rw [qj,beq_iff_eq,beq_iff_eq] at h
   rw [h.1,h.2]
  ·rw [beq_iff_eq.1 h]
  ·rw [litEqs_is h]
  ·rw [litEqs_is h]
  ·rw [litEqs_is h]
  ·rw [qj,qj,beq_iff_eq] at h
   rw [Nat.eq_of_beq_eq_true h.1.1,h.1.2,litRows_is h.2]
  ·rfl
  ·rfl
  ·rfl
  ·cases h
theorem litEqs_is : ∀ {a b : List AVal},litEqs a b = true → a = b
 | [],[],_ => rfl
 | a :: as,b :: bs,h => by
  simp only [litEqs,qj] at h
  rw [litEq_is h.1,litEqs_is h.2]
 | [],_ :: _,h => by simp [litEqs] at h
 | _ :: _,[],h => by simp [litEqs] at h
theorem litRows_is : ∀ {a b : List (List AVal)},litRows a b = true → a = b
 | [],[],_ => rfl
 | a :: as,b :: bs,h => by
  simp only [litRows,qj] at h
  rw [litEqs_is h.1,litRows_is h.2]
 | [],_ :: _,h => by simp [litRows] at h
 | _ :: _,[],h => by simp [litRows] at h
end
abbrev Lits := List (FuncId × List AVal × AVal)
def litFun (l : Lits) (f : FuncId) : Nat → List AVal → Heap → Option (AVal × Heap) :=
 fun _ args H => (l.find? fun x => x.1 == f && litEqs x.2.1 args).map fun x => (x.2.2,H)
def litHook (l : Lits) (f : FuncId) : Option (Nat → List AVal → Heap → Option (AVal × Heap)) := if l.any fun x => x.1 == f then some (litFun l f) else none
theorem litFun_is {l : Lits} {f : FuncId} {lo : Nat} {args : List AVal} {H : Heap} {r : AVal} {H' : Heap} (h : litFun l f lo args H = some (r,H')) : (f,args,r) ∈ l ∧ H' = H := by
 unfold litFun at h
 rw [qd] at h
 obtain ⟨x,hx,e⟩ := h
 have hm := List.mem_of_find?_eq_some hx
 have hg := List.find?_some hx
 simp only [qj,beq_iff_eq] at hg
 obtain ⟨f',a',r'⟩ := x
 obtain ⟨rfl,h2⟩ := hg
 have h2 := litEqs_is h2
 simp only [qe] at e h2
 obtain ⟨rfl,rfl⟩ := e
 subst h2
 exact ⟨hm,rfl⟩
theorem litHook_is {l : Lits} {f : FuncId} {hk : Nat → List AVal → Heap → Option (AVal × Heap)} (h : litHook l f = some hk) : hk = litFun l f := by
 unfold litHook at h
 split at h
 ·exact (Option.some.inj h).symm
 ·cases h
theorem litFun_low {l : Lits} {f : FuncId} (lo : Nat) (args : List AVal) (H : Heap) (r : AVal) (H' : Heap) (h : litFun l f lo args H = some (r,H')) : H.length ≤ H'.length ∧ ∀ b,b < lo → b < H.length → H'[b]? = H[b]? := by
 rw [(litFun_is h).2]
 exact ⟨qf _,fun _ _ _ => rfl⟩
end Go.Am

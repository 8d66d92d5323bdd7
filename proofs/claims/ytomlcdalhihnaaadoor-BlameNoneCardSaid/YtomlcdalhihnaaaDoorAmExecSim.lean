/- That the model's run keeps to the idealised one: operations one behind the other, calls, code. Generic: over any program. -/
import Derived.Test.YtomlcdalhihnaaaDoorAmExec
namespace Go.Am
open Go.RowKit

def AExit.toExit : AExit → Exit
  | .normal => .normal
  | .exit id => .exit id
  | .ret => .ret

def CallPost (lo : Nat) (c : Cx) (H : Heap) (r : AVal) (H' : Heap) (e : Ending) (w' : World) : Prop :=
  ∃ v c', e = .returned v ∧ c'.w = w' ∧ Rel c' H' ∧ Tr c H c' H' ∧ Low lo c H c' H' ∧ V c' r v

def CallOk (S : AStat) (call : CallF) : Prop :=
  ∀ lo f args H r H', call lo f args H = some (r, H') → ∀ c vs, Rel c H → GlobOk S c → Vs c args vs →
    (∃ fn, S.P.funcs[f]? = some fn ∧ fn.body.isSome = true) ∧ Calls S.P f vs.toArray c.w (CallPost lo c H r H')

structure StatOk (S : AStat) : Prop where
  noNum : ∀ (f : FuncId) (fn : Func), S.P.funcs[f]? = some fn → (fn.name == "runtime.NumGoroutine") = false
  meth : ∀ t name g, S.meth t name = some g → ∀ a w, (method (S.P.types.size + Made.depth) t (.pointer a) name).run S.P w = .ok (g, .pointer a) w
  hook : ∀ f hk, S.hook f = some hk → ∀ lo args H r H', hk lo args H = some (r, H') → ∀ c vs, Rel c H → GlobOk S c → Vs c args vs →
    (∃ fn, S.P.funcs[f]? = some fn ∧ fn.body.isSome = true) ∧ Calls S.P f vs.toArray c.w (CallPost lo c H r H')
  mixed : S.P.follows .mixedOrders = true
  low : ∀ f hk, S.hook f = some hk → ∀ lo args H r H', hk lo args H = some (r, H') → H.length ≤ H'.length ∧ ∀ b, b < lo → b < H.length → H'[b]? = H[b]?

def Post (lo : Nat) (c : Cx) (H : Heap) (x : AExit) (ρ' : List AVal) (H' : Heap) (e : Exit) (a' : Act) (w' : World) : Prop :=
  e = x.toExit ∧ a'.defers = [] ∧ ∃ c', c'.w = w' ∧ Rel c' H' ∧ Tr c H c' H' ∧ Low lo c H c' H' ∧ Vs c' ρ' a'.tmps.toList

theorem Post.trans {lo : Nat} {c0 c : Cx} {H0 H : Heap} (hT : Tr c0 H0 c H) (hL : Low lo c0 H0 c H) {x : AExit} {ρ' : List AVal} {H' : Heap} {e : Exit} {a' : Act} {w' : World} (h : Post lo c H x ρ' H' e a' w') :
    Post lo c0 H0 x ρ' H' e a' w' := by
  obtain ⟨h1, h2, c', h3, h4, h5, h6, h7⟩ := h
  exact ⟨h1, h2, c', h3, h4, hT.trans h5, hL.trans hT.ext h6, h7⟩

def ExecOk (S : AStat) (K : Nat) (rec : ExecF) : Prop :=
  ∀ lo code ρ H x ρ' H', rec lo code ρ H = some (x, ρ', H') → ∀ c a, Rel c H → GlobOk S c → Vs c ρ a.tmps.toList → a.defers = [] →
    code.wp S.P (Post lo c H x ρ' H') a c.w ∧ ∀ b, code = .loop b → Code.rounds S.P b (Post lo c H x ρ' H') K a c.w

theorem not_bool {c : Cx} {x : AVal} {v : Value} (h : V c x v) (h1 : ∀ b, x ≠ .bool b) (h2 : x ≠ .junk) : ∀ b, v ≠ .bool b := by
  intro b e
  subst e
  cases x <;> simp only [V] at h <;> simp_all

theorem guardA_sim {c : Cx} {ops : Array Oper} {ρ : List AVal} {a : Act} {o : Oper} {b : Bool} (h : guardA ops.toList ρ o = some b) (hρ : Vs c ρ a.tmps.toList) : Region.wanted o (yielded ops a.tmps) = b := by
  unfold guardA at h
  unfold Region.wanted
  split at h
  · rename_i hg
    simp only [Option.some.injEq] at h
    rw [hg]
    exact h
  · rename_i j want hg
    rw [hg]
    simp only
    have hops : ops.toList[j]? = ops[j]? := by simp
    rw [hops] at h
    split at h
    · rename_i hd
      simp only [Option.some.injEq] at h
      subst h
      simp [yielded, hd]
    · rename_i d hd
      have hl := Vs_length hρ
      split at h
      · rename_i hn
        simp only [Option.some.injEq] at h
        subst h
        have : a.tmps[d]? = none := by
          rw [List.getElem?_eq_none_iff] at hn
          rw [Array.getElem?_eq_none_iff]
          simp only [Array.length_toList] at hl
          omega
        simp [yielded, hd, this]
      · rename_i bv hn
        simp only [Option.some.injEq] at h
        subst h
        obtain ⟨v, h1, h2⟩ := Vs_get hρ hn
        simp only [V] at h2
        subst h2
        have : a.tmps[d]? = some (.bool bv) := by simpa using h1
        simp [yielded, hd, this]
      · cases h
      · rename_i av hnb hnj hn
        simp only [Option.some.injEq] at h
        subst h
        obtain ⟨v, h1, h2⟩ := Vs_get hρ hn
        have hv := not_bool h2 (fun b e => hnb b e) (fun e => hnj e)
        have : a.tmps[d]? = some v := by simpa using h1
        have hy : yielded ops a.tmps j = none := by
          simp only [yielded, hd, Option.bind_some, this]
          cases v <;> first | rfl | exact absurd rfl (hv _)
        rw [hy]
        rfl

theorem putA_Vs {c : Cx} {ρ : List AVal} {a : Act} (hρ : Vs c ρ a.tmps.toList) (dst : Option Tmp) {v : AVal} {u : Value} (h : V c v u) : Vs c (putA ρ dst v) (a.put dst u).tmps.toList := by
  cases dst with
  | none => exact hρ
  | some d =>
    simp only [putA, Act.put, Array.toList_setIfInBounds]
    exact Vs_set hρ h

theorem undef_V (c : Cx) : V c undefA undef := by
  simp only [undefA, V]
  exact ⟨[], rfl, by simp [Vs]⟩

theorem put_defers (a : Act) (dst : Option Tmp) (v : Value) : (a.put dst v).defers = a.defers := by cases dst <;> rfl

/-- One operation, met. -/
theorem opA_sim {S : AStat} (hS : StatOk S) {call : CallF} (hC : CallOk S call) {lo : Nat} {c : Cx} {H : Heap} {ρ : List AVal} {a : Act} (hR : Rel c H) (hG : GlobOk S c) (o : Oper) (hev : EvOn S c ρ a o.op.operands) {v : AVal} {H' : Heap}
    (h : opA S call lo ρ H o = some (v, H')) {K : Act → World → Prop} {Q : Exit → Act → World → Prop}
    (hK : ∀ c' u, Rel c' H' → Tr c H c' H' → Low lo c H c' H' → V c' v u → K (a.put o.dst u) c'.w) : o.wp S.P a c.w K Q := by
  have does : Does S lo c H a o v H' → o.wp S.P a c.w K Q := by
    rintro ⟨c', u, h1, h2, h3, h4, h5 | ⟨h5, rfl⟩⟩
    · unfold Oper.wp
      rw [h5]
      exact hK c' u h1 h2 h3 h4
    · unfold Oper.wp
      rw [h5]
      exact hK c' _ h1 h2 h3 h4
  have enter : ∀ (g : FuncId) (args : List AVal) (vs : List Value), call lo g args H = some (v, H') → Vs c args vs → ((execOp a.eval o).run S.P c.w = ((callFunc g vs.toArray).run S.P c.w)) → o.wp S.P a c.w K Q := by
    intro g args vs hc hvs hrun
    obtain ⟨⟨fn, hf, hb⟩, hcalls⟩ := hC lo g args H v H' hc c vs hR hG hvs
    have hcf : (callFunc g vs.toArray).run S.P c.w = .ok (.enter g vs.toArray) c.w := by
      have hb' : fn.body.isNone = false := by cases hfb : fn.body <;> simp_all
      have hn : ¬ ((fn.name == "runtime.NumGoroutine") = true) := by rw [hS.noNum g fn hf]; simp
      have hnb : ¬ (fn.body.isNone = true) := by rw [hb']; simp
      simp only [callFunc, Sem.run_bind, run_program, Result.andThen_ok, hf]
      rw [if_neg hn, if_neg hnb]
      rfl
    unfold Oper.wp
    rw [hrun, hcf]
    refine hcalls.mono ?_
    rintro e w' ⟨u, c', rfl, rfl, h1, h2, h3, h4⟩
    exact hK c' u h1 h2 h3 h4
  unfold opA at h
  split at h
  · rename_i r hq
    simp only [Option.some.injEq, Prod.mk.injEq] at h
    obtain ⟨rfl, rfl⟩ := h
    obtain ⟨u, h1, h2⟩ := quietA_sim hR o hev hq
    exact does ⟨c, u, hR, Tr.refl _ _, Low.refl _ _ _, h2, .inl h1⟩
  · split at h
    · rename_i blk mk hn
      simp only [Option.some.injEq, Prod.mk.injEq] at h
      obtain ⟨rfl, rfl⟩ := h
      obtain ⟨obj, u, h1, h2⟩ := (newA_sim o hev hn).run
      have hadd := hR.add (H' := H ++ [some blk]) H.length obj blk (hR.fresh _ (Nat.le_refl _)) (by simp) (by simp) (by
        intro x y hxy
        rcases Nat.lt_or_ge x H.length with h1 | h1
        · rw [List.getElem?_append_left h1] at hxy
          exact .inr ⟨by omega, hxy⟩
        · rw [List.getElem?_append_right h1] at hxy
          rcases Nat.eq_or_lt_of_le h1 with h2 | h2
          · rw [← h2] at hxy
            simp at hxy
            exact .inl ⟨h2.symm, hxy.symm⟩
          · rw [List.getElem?_eq_none (by simp; omega)] at hxy
            cases hxy) (fun hE => (h2 _ hE).1)
      refine does ⟨_, u, hadd.1, hadd.2, ?_, (h2 _ hadd.2.ext).2, .inl h1⟩
      refine hR.add_low lo _ _ (Nat.le_refl _) (by simp) fun x y hxy => ?_
      rw [List.getElem?_append_left]
      · exact hxy
      · rcases Nat.lt_or_ge x H.length with h | h
        · exact h
        · rw [List.getElem?_eq_none h] at hxy; cases hxy
    · unfold effA at h
      split at h
      · rename_i t x y ho
        rw [Option.map_eq_some_iff] at h
        obtain ⟨H2, h1, h2⟩ := h
        simp only [Prod.mk.injEq] at h2
        obtain ⟨rfl, rfl⟩ := h2
        exact does (storeA_sim hR o hev ho h1)
      · rename_i t m k y ho
        rw [Option.map_eq_some_iff] at h
        obtain ⟨H2, h1, h2⟩ := h
        simp only [Prod.mk.injEq] at h2
        obtain ⟨rfl, rfl⟩ := h2
        obtain ⟨c', g1, g2, g3, g4⟩ := mapUpdateA_sim hR h1 (hev m (by simp [ho, Op.operands])) (hev k (by simp [ho, Op.operands])) (hev y (by simp [ho, Op.operands]))
        refine does ⟨c', undef, g1, g2, g3, undef_V c', .inr ⟨?_, rfl⟩⟩
        obtain ⟨dst, op, type, pos, after, guard⟩ := o
        simp only at ho
        subst ho
        simp [execOp, g4]
      · rename_i t m k y ho
        rw [Option.map_eq_some_iff] at h
        obtain ⟨H2, h1, h2⟩ := h
        simp only [Prod.mk.injEq] at h2
        obtain ⟨rfl, rfl⟩ := h2
        obtain ⟨c', g1, g2, g3, g4⟩ := mapUpdateA_sim hR h1 (hev m (by simp [ho, Op.operands])) (hev k (by simp [ho, Op.operands])) (hev y (by simp [ho, Op.operands]))
        refine does ⟨c', undef, g1, g2, g3, undef_V c', .inr ⟨?_, rfl⟩⟩
        obtain ⟨dst, op, type, pos, after, guard⟩ := o
        simp only at ho
        subst ho
        simp [execOp, g4]
      · rename_i args ts ho
        split at h
        · rename_i s x t u e1 e2
          have hl := Vs_mapO (c := c) (S := S) (ρ := ρ) (a := a) args.toList (fun x hx => hev x (by simp [ho, Op.operands, Call.operands]; first | exact .inr (by simpa using hx) | simpa using hx))
          rw [e1] at hl
          simp only [Vs] at hl
          obtain ⟨sv, _, e3, hsv, xv, _, rfl, hxv, rfl⟩ := hl
          obtain ⟨c', vv, h1, h2, h3, h4, h5⟩ := appendA_sim (ty := o.type) hR h hsv hxv
          refine does ⟨c', vv, h1, h2, h3, h4, .inl ?_⟩
          have e4 : args.map a.eval = #[sv, xv] := by apply Array.ext'; simpa using e3
          have e5 : ts = #[t, u] := by apply Array.ext'; simpa using e2
          obtain ⟨dst, op, type, pos, after, guard⟩ := o
          simp only at ho
          subst ho
          simp only [execOp, Sem.run_bind, resolve, Sem.run_pure, Result.andThen_ok, invoke, builtin, e4, e5] at h5 ⊢
          simp [h5]
        · cases h
      · rename_i f args ts ho
        split at h
        · rename_i g first captured e1
          split at h
          · rename_i r hext
            simp only [Option.some.injEq, Prod.mk.injEq] at h
            obtain ⟨rfl, rfl⟩ := h
            obtain ⟨u, h1, h2⟩ := extCall_sim o hev ho e1 hext
            exact does ⟨c, u, hR, Tr.refl _ _, Low.refl _ _ _, h2, .inl h1⟩
          have hf := hev f (by simp [ho, Op.operands, Call.operands])
          rw [e1] at hf
          simp only [V] at hf
          obtain ⟨vs, us, e2, h1, h2⟩ := hf
          have hl := Vs_mapO (c := c) (S := S) (ρ := ρ) (a := a) args.toList (fun x hx => hev x (by simp [ho, Op.operands, Call.operands]; first | exact .inr (by simpa using hx) | simpa using hx))
          refine enter g _ (vs ++ args.toList.map a.eval ++ us) h (Vs_append (Vs_append h1 hl) h2) ?_
          obtain ⟨dst, op, type, pos, after, guard⟩ := o
          simp only at ho
          subst ho
          simp only [execOp, Sem.run_bind, resolve, e2, Deferred.ofValue, Sem.run_pure, Result.andThen_ok, invoke]
          congr 2
          apply Array.ext'
          simp
        · cases h
      · rename_i rcv name args ts ho
        split at h
        · rename_i t v0 e1
          have hf := hev rcv (by simp [ho, Op.operands, Call.operands])
          rw [e1] at hf
          simp only [V] at hf
          obtain ⟨u, e2, hu⟩ := hf
          split at h
          · rename_i g nb hm hn
            have hl := Vs_mapO (c := c) (S := S) (ρ := ρ) (a := a) args.toList (fun x hx => hev x (by simp [ho, Op.operands, Call.operands]; first | exact .inr (by simpa using hx) | simpa using hx))
            have hp := nk_sim hn hu
            have hpu : ∃ q, u = .pointer q := by
              cases u <;> simp [vnk] at hp
              exact ⟨_, rfl⟩
            obtain ⟨q, rfl⟩ := hpu
            refine enter g _ (.pointer q :: args.toList.map a.eval) h (by simp only [Vs]; exact ⟨_, _, rfl, hu, hl⟩) ?_
            obtain ⟨dst, op, type, pos, after, guard⟩ := o
            simp only at ho
            subst ho
            have e3 : #[Value.iface t (.pointer q)] ++ args.map a.eval = (Value.iface t (.pointer q) :: args.toList.map a.eval).toArray := by
              apply Array.ext'; simp
            have e4 : ((Value.iface t (.pointer q) :: args.toList.map a.eval).toArray.extract 1 (Value.iface t (.pointer q) :: args.toList.map a.eval).toArray.size) = (args.toList.map a.eval).toArray := by
              apply Array.ext'
              rw [Array.toList_extract]
              simp only [List.extract_eq_take_drop, List.drop_succ_cons, List.drop_zero, List.size_toArray, List.length_cons, List.length_map]
              rw [List.take_of_length_le (by simp)]
            simp only [execOp, Sem.run_bind, resolve, e2, Sem.run_pure, Result.andThen_ok, invoke, e3]
            simp only [List.getElem?_toArray, List.getElem?_cons_zero, callMethod, Sem.run_bind, run_program, Result.andThen_ok, hS.meth t name g hm q, e4]
            congr 2
            apply Array.ext'
            simp
          · split at h
            · rename_i g v1 hm
              rw [Option.map_eq_some_iff] at h
              obtain ⟨r, h, h2⟩ := h
              simp only [Prod.mk.injEq] at h2
              obtain ⟨rfl, rfl⟩ := h2
              obtain ⟨x, h1, h2⟩ := extInv_sim o hev ho e1 hm h
              exact does ⟨c, x, hR, Tr.refl _ _, Low.refl _ _ _, h2, .inl h1⟩
            · cases h
        · cases h
      · cases h

end Go.Am

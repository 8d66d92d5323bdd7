/- That the model's operations keep to the idealised ones: operations that leave all memory as it is. Generic: over any program. -/
import Derived.Test.YtomlcdalhihnaaaDoorAmOp
namespace Go.Am
open Go.RowKit

theorem Vs_get {c : Cx} : ∀ {as : List AVal} {vs : List Value} {i : Nat} {a : AVal}, Vs c as vs → as[i]? = some a → ∃ v, vs[i]? = some v ∧ V c a v
  | [], _, _, _, _, h => by simp at h
  | x :: as, _, 0, a, hv, h => by
    simp only [Vs] at hv
    obtain ⟨v, us, rfl, h1, _⟩ := hv
    simp at h
    subst h
    exact ⟨v, rfl, h1⟩
  | x :: as, _, i + 1, a, hv, h => by
    simp only [Vs] at hv
    obtain ⟨v, us, rfl, _, h2⟩ := hv
    simp at h
    obtain ⟨u, h3, h4⟩ := Vs_get h2 h
    exact ⟨u, by simpa using h3, h4⟩

theorem Vs_take {c : Cx} : ∀ {as : List AVal} {vs : List Value} (n : Nat), Vs c as vs → Vs c (as.take n) (vs.take n)
  | [], _, n, h => by simp [Vs] at h; subst h; simp [Vs]
  | a :: as, _, 0, _ => by simp [Vs]
  | a :: as, _, n + 1, h => by
    simp only [Vs] at h
    obtain ⟨v, us, rfl, h1, h2⟩ := h
    simp only [List.take_succ_cons, Vs]
    exact ⟨v, _, rfl, h1, Vs_take n h2⟩

theorem Vs_drop {c : Cx} : ∀ {as : List AVal} {vs : List Value} (n : Nat), Vs c as vs → Vs c (as.drop n) (vs.drop n)
  | [], _, n, h => by simp [Vs] at h; subst h; simp [Vs]
  | a :: as, _, 0, h => by simpa using h
  | a :: as, _, n + 1, h => by
    simp only [Vs] at h
    obtain ⟨v, us, rfl, h1, h2⟩ := h
    simpa using Vs_drop n h2

theorem Vs_append {c : Cx} : ∀ {as bs : List AVal} {vs us : List Value}, Vs c as vs → Vs c bs us → Vs c (as ++ bs) (vs ++ us)
  | [], _, _, _, h, k => by simp [Vs] at h; subst h; simpa using k
  | a :: as, _, _, _, h, k => by
    simp only [Vs] at h
    obtain ⟨v, us, rfl, h1, h2⟩ := h
    simp only [List.cons_append, Vs]
    exact ⟨v, _, rfl, h1, Vs_append h2 k⟩

theorem Vs_set {c : Cx} : ∀ {as : List AVal} {vs : List Value} {i : Nat} {a : AVal} {v : Value}, Vs c as vs → V c a v → Vs c (as.set i a) (vs.set i v)
  | [], _, _, _, _, h, _ => by simp [Vs] at h; subst h; simp [Vs]
  | x :: as, _, 0, a, v, h, k => by
    simp only [Vs] at h
    obtain ⟨u, us, rfl, h1, h2⟩ := h
    simp only [List.set_cons_zero, Vs]
    exact ⟨v, us, rfl, k, h2⟩
  | x :: as, _, i + 1, a, v, h, k => by
    simp only [Vs] at h
    obtain ⟨u, us, rfl, h1, h2⟩ := h
    simp only [List.set_cons_succ, Vs]
    exact ⟨u, _, rfl, h1, Vs_set h2 k⟩

theorem Vs_map {c : Cx} {β : Type} (f : β → AVal) (g : β → Value) (h : ∀ x, V c (f x) (g x)) : ∀ l : List β, Vs c (l.map f) (l.map g)
  | [] => by simp [Vs]
  | x :: l => by
    simp only [List.map_cons, Vs]
    exact ⟨_, _, rfl, h x, Vs_map f g h l⟩

theorem Vs_replicate {c : Cx} {a : AVal} {v : Value} (h : V c a v) : ∀ n, Vs c (List.replicate n a) (List.replicate n v)
  | 0 => by simp [Vs]
  | n + 1 => by
    simp only [List.replicate_succ, Vs]
    exact ⟨_, _, rfl, h, Vs_replicate h n⟩

theorem leafA_V (c : Cx) : ∀ v : Value, V c (leafA v) v
  | .bool b => by simp [leafA, V]
  | .int k n => by simp [leafA, V]
  | .string s => by simp only [leafA, V]; exact ⟨s, rfl, rfl⟩
  | .pointer none => by simp [leafA, V]
  | .pointer (some a) => by simp [leafA, V]
  | .slice a n m => by
    unfold leafA
    split <;> simp_all [V]
  | .map none => by simp [leafA, V]
  | .map (some a) => by simp [leafA, V]
  | .nilFunc => by simp [leafA, V]
  | .nilIface => by simp [leafA, V]
  | .iface t v => by
    simp only [leafA, V]
    exact ⟨v, rfl, leafA_V c v⟩
  | .func f a b => by
    simp only [leafA]
    split
    · rename_i h
      simp only [Bool.and_eq_true, Array.isEmpty_iff] at h
      obtain ⟨rfl, rfl⟩ := h
      simp only [V]
      exact ⟨[], [], rfl, by simp [Vs], by simp [Vs]⟩
    · simp [V]
  | .float _ _ => by simp [leafA, V]
  | .complex _ _ _ => by simp [leafA, V]
  | .chan _ => by simp [leafA, V]
  | .agg _ => by simp [leafA, V]
  | .tuple _ => by simp [leafA, V]

theorem constA_V (c : Cx) (v : Value) : V c (constA v) v := by
  cases v with
  | agg cs =>
    simp only [constA, V]
    refine ⟨cs.toList, rfl, ?_⟩
    have := Vs_map (c := c) leafA id (fun x => leafA_V c x) cs.toList
    simpa using this
  | _ => exact leafA_V c _

def GlobOk (S : AStat) (c : Cx) : Prop := ∀ g cs, S.glob g = some cs → V c (.ipt cs) (.pointer (some ⟨g, 0, none⟩))

theorem GlobOk.ext {S : AStat} {c c' : Cx} (h : Ext c c') (hG : GlobOk S c) : GlobOk S c' := fun g cs hg => V_ext h _ _ (hG g cs hg)

theorem Vs_getD {c : Cx} {as : List AVal} {vs : List Value} (h : Vs c as vs) (i : Nat) : V c (as.getD i undefA) (vs.getD i undef) := by
  cases ha : as[i]? with
  | none =>
    have hl := Vs_length h
    have : vs[i]? = none := by
      rw [List.getElem?_eq_none_iff] at ha ⊢
      omega
    simp only [List.getD, ha, this, Option.getD_none, undefA, V]
    exact ⟨[], rfl, by simp [Vs]⟩
  | some a =>
    obtain ⟨v, h1, h2⟩ := Vs_get h ha
    simpa [List.getD, ha, h1] using h2

theorem evalA_V {S : AStat} {c : Cx} {ρ : List AVal} {a : Act} (hG : GlobOk S c) (hρ : Vs c ρ a.tmps.toList) (x : Operand) : V c (evalA S ρ x) (a.eval x) := by
  cases x with
  | tmp t =>
    have := Vs_getD hρ t
    simpa [evalA, Act.eval, Array.getD_eq_getD_getElem?, List.getD] using this
  | const v => exact constA_V c v
  | global g =>
    simp only [evalA, Act.eval]
    split
    · rename_i cs h
      exact hG g cs h
    · simp [V]
  | func f =>
    simp only [evalA, Act.eval, V]
    exact ⟨[], [], rfl, by simp [Vs], by simp [Vs]⟩

theorem cells_Vs {c : Cx} {a : AVal} {v : Value} (h : V c a v) (hj : a.cells.all AVal.one = true) : Vs c a.cells v.cells.toList := by
  cases a with
  | agg cs =>
    simp only [V] at h
    obtain ⟨vs, rfl, h⟩ := h
    simpa [AVal.cells, Value.cells] using h
  | tup _ => simp [AVal.cells, AVal.one] at hj
  | junk => simp [AVal.cells, AVal.one] at hj
  | _ =>
    have : v.cells = #[v] := by
      simp only [V] at h
      rcases v with _ | _ | _ | _ | _ | _ | _ | _ | _ | _ | _ | _ | _ | _ | _ <;> first | rfl | (exfalso; simp at h)
    simp only [AVal.cells, this, Vs]
    exact ⟨v, [], rfl, h, rfl⟩

theorem one_of_V {c : Cx} {a : AVal} {v : Value} (h : V c a v) (ho : a.one = true) : v.oneCell' = true := by
  cases a <;> simp [AVal.one] at ho <;> simp only [V] at h <;>
    rcases v with _ | _ | _ | _ | _ | _ | _ | _ | _ | _ | _ | _ | _ | _ | _ <;> first | rfl | (exfalso; simp at h)

theorem ones_of_Vs {c : Cx} : ∀ {as : List AVal} {vs : List Value}, Vs c as vs → as.all AVal.one = true → ∀ v ∈ vs, v.oneCell' = true
  | [], _, h, _, v, hv => by simp [Vs] at h; subst h; cases hv
  | a :: as, _, h, ho, v, hv => by
    simp only [Vs] at h
    obtain ⟨u, us, rfl, h1, h2⟩ := h
    simp only [List.all_cons, Bool.and_eq_true] at ho
    rcases List.mem_cons.1 hv with rfl | hv
    · exact one_of_V h1 ho.1
    · exact ones_of_Vs h2 ho.2 v hv

variable {P : Program}

def aggD : TypeDesc → Bool
  | .struct _ => true
  | .array _ _ => true
  | _ => false

theorem run_isAgg {t : TypeId} {d : TypeDesc} (h : P.underlying t = some d) (w : World) : (isAgg t).run P w = .ok (aggD d) w := by
  simp only [isAgg, Sem.run_bind, run_underlying h, Result.andThen_ok]
  cases d <;> rfl

theorem run_typeInfo {t : TypeId} {i : TypeInfo} (h : P.info? t = some i) (w : World) : (typeInfo t).run P w = .ok i w := by
  simp [typeInfo, h]

theorem run_zeroValue {c : Cx} {t : TypeId} {z : AVal} (h : zeroA P t = some z) (w : World) : ∃ v, (zeroValue t).run P w = .ok v w ∧ V c z v := by
  unfold zeroA at h
  rw [Option.map_eq_some_iff] at h
  obtain ⟨v, hv, rfl⟩ := h
  rw [Option.bind_eq_some_iff] at hv
  obtain ⟨i, hi, hz⟩ := hv
  exact ⟨v, by simp [zeroValue, run_typeInfo hi, hz], constA_V c v⟩

theorem run_sizeOf {t : TypeId} (h : (P.info? t).isSome = true) (w : World) : (sizeOf t).run P w = .ok (szOf P t) w := by
  obtain ⟨i, hi⟩ := Option.isSome_iff_exists.1 h
  simp [sizeOf, run_typeInfo hi, szOf, Program.cellsOf, hi]

theorem info_of_underlying {t : TypeId} {d : TypeDesc} (h : P.underlying t = some d) : (P.info? t).isSome = true := by
  unfold Program.underlying at h
  cases hi : P.info? t with
  | none => simp [hi] at h
  | some i => rfl

theorem partA_sim {c : Cx} {t : TypeId} {cs : List AVal} {vs : List Value} {off : Nat} {r : AVal} (h : partA P t cs off = some r) (hv : Vs c cs vs) (w : World) :
    ∃ v, (part t vs.toArray off).run P w = .ok v w ∧ V c r v := by
  unfold partA at h
  have agg : ∀ d, P.underlying t = some d → aggD d = true → (if off + szOf P t ≤ cs.length then some (AVal.agg ((cs.drop off).take (szOf P t))) else none) = some r →
      ∃ v, (part t vs.toArray off).run P w = .ok v w ∧ V c r v := by
    intro d hd hb hr
    split at hr
    · simp only [Option.some.injEq] at hr
      subst hr
      refine ⟨.agg ((vs.drop off).take (szOf P t)).toArray, ?_, ?_⟩
      · simp only [part, Sem.run_bind, run_isAgg hd, Result.andThen_ok, hb, if_true, run_sizeOf (info_of_underlying hd), Sem.run_pure]
        congr 2
        apply Array.ext'
        simp [List.extract_eq_take_drop]
      · simp only [V]
        exact ⟨_, rfl, Vs_take _ (Vs_drop _ hv)⟩
    · cases hr
  split at h
  · rename_i fs hd
    exact agg _ hd rfl h
  · rename_i n e hd
    exact agg _ hd rfl h
  · rename_i d hns hna hd
    obtain ⟨v, h1, h2⟩ := Vs_get hv h
    refine ⟨v, ?_, h2⟩
    have hb : aggD d = false := by
      cases d <;> first | rfl | (exact absurd rfl (hns _)) | (exact absurd rfl (hna _ _))
    simp [part, run_isAgg hd, hb, h1]
  · cases h

theorem add_plain (B o n : Nat) : (⟨B, o, none⟩ : Addr).add n = ⟨B, o + n, none⟩ := by
  unfold Addr.add
  split
  · rename_i h; subst h; rfl
  · rfl

theorem run_loadVar {c : Cx} {t : TypeId} {cs : List AVal} {vs : List Value} {r : AVal} {w : World} {B o : Nat} (h : partA P t cs 0 = some r) (hv : Vs c cs vs) (ha : At w B o vs) :
    ∃ v, (loadVar t ⟨B, o, none⟩).run P w = .ok v w ∧ V c r v := by
  unfold partA at h
  have agg : ∀ d, P.underlying t = some d → aggD d = true → (if 0 + szOf P t ≤ cs.length then some (AVal.agg ((cs.drop 0).take (szOf P t))) else none) = some r →
      ∃ v, (loadVar t ⟨B, o, none⟩).run P w = .ok v w ∧ V c r v := by
    intro d hd hb hr
    split at hr
    · rename_i hle
      simp only [Option.some.injEq, List.drop_zero] at hr
      subst hr
      have hl := Vs_length hv
      refine ⟨.agg (vs.take (szOf P t)).toArray, ?_, ?_⟩
      · have hc := run_loadCells_list (P := P) w ⟨B, o, none⟩ (vs.take (szOf P t)) (by
          intro j v hj
          rw [List.getElem?_take] at hj
          split at hj
          · rw [add_plain]; exact ha j v hj
          · cases hj)
        have e : (vs.take (szOf P t)).length = szOf P t := by simp; omega
        rw [e] at hc
        simp only [loadVar, Sem.run_bind, run_isAgg hd, Result.andThen_ok, hb, if_true, run_sizeOf (info_of_underlying hd), hc, Sem.run_pure]
      · simp only [V]
        exact ⟨_, rfl, Vs_take _ hv⟩
    · cases hr
  split at h
  · rename_i fs hd
    exact agg _ hd rfl h
  · rename_i n e hd
    exact agg _ hd rfl h
  · rename_i d hns hna hd
    obtain ⟨v, h1, h2⟩ := Vs_get hv h
    refine ⟨v, ?_, h2⟩
    have hb : aggD d = false := by
      cases d <;> first | rfl | (exact absurd rfl (hns _)) | (exact absurd rfl (hna _ _))
    have := ha 0 v h1
    simp only [Nat.add_zero] at this
    simp [loadVar, run_isAgg hd, hb, this]
  · cases h

theorem At_drop {w : World} {B o : Nat} {vs : List Value} (n : Nat) (h : At w B o vs) : At w B (o + n) (vs.drop n) := by
  intro j v hj
  rw [List.getElem?_drop] at hj
  have := h (n + j) v hj
  rw [show o + n + j = o + (n + j) by omega]
  exact this

theorem At_take {w : World} {B o : Nat} {vs : List Value} (n : Nat) (h : At w B o vs) : At w B o (vs.take n) := by
  intro j v hj
  rw [List.getElem?_take] at hj
  split at hj
  · exact h j v hj
  · cases hj

/-- Cells behind an address. -/
theorem atA_sim {c : Cx} {H : Heap} (hR : Rel c H) {x : AVal} {v : Value} {cs : List AVal} (h : atA H x = some cs) (hv : V c x v) :
    ∃ B o vs, v = .pointer (some ⟨B, o, none⟩) ∧ At c.w B o vs ∧ Vs c cs vs := by
  cases x <;> simp only [atA] at h <;> first | cases h | skip
  case ipt =>
    simp only [V] at hv
    obtain ⟨B, off, vs, e, _, ha, hvs⟩ := hv
    exact ⟨B, off, vs, e, ha, Vs_ext (Ext.of_pure c) _ _ hvs⟩
  case eptr =>
    simp only [V] at hv
    obtain ⟨B, o, vs, _, _, e, _, ha, hvs, _⟩ := hv
    exact ⟨B, o, vs, e, ha, Vs_ext (Ext.of_pure c) _ _ hvs⟩
  case ptr b off =>
    split at h
    · rename_i cs' hb
      simp only [Option.some.injEq] at h
      subst h
      simp only [V] at hv
      obtain ⟨B, base, hi, e⟩ := hv
      obtain ⟨B', base', h1, _, _, h2⟩ := hR.blk b _ hb
      rw [hi] at h1
      simp only [Option.some.injEq, Prod.mk.injEq] at h1
      obtain ⟨rfl, rfl⟩ := h1
      obtain ⟨_, _, vs, ha, hvs⟩ := h2
      exact ⟨B, base + off, vs.drop off, e, At_drop off ha, Vs_drop off hvs⟩
    · cases h

theorem loadA_sim {c : Cx} {H : Heap} (hR : Rel c H) {t : TypeId} {x r : AVal} {v : Value} (h : loadA P t H x = some r) (hv : V c x v) :
    ∃ u, (Instr.loadAt t v).run P c.w = .ok u c.w ∧ V c r u := by
  unfold loadA at h
  rw [Option.bind_eq_some_iff] at h
  obtain ⟨cs, h1, h2⟩ := h
  obtain ⟨B, o, vs, rfl, ha, hvs⟩ := atA_sim hR h1 hv
  obtain ⟨u, h3, h4⟩ := run_loadVar h2 hvs ha
  exact ⟨u, by simp [Instr.loadAt, Instr.sureAddr, h3], h4⟩

theorem fieldAddrA_sim {c : Cx} {t : TypeId} {x r : AVal} {v : Value} {f : Nat} (h : fieldAddrA P t x f = some r) (hv : V c x v) (w : World) :
    ∃ u, (Instr.fieldAt t v f).run P w = .ok u w ∧ V c r u := by
  unfold fieldAddrA at h
  split at h
  · rename_i fs hd
    split at h
    · rename_i fd hf
      split at h
      · rename_i hok
        have hpl : ∀ B o, (fieldPlace ⟨B, o, none⟩ fd).run P w = .ok ⟨B, o + fd.offset, none⟩ w := by
          intro B o
          simp [fieldPlace, run_sizeOf hok.1, hok.2, add_plain]
        split at h
        · rename_i b off
          simp only [Option.some.injEq] at h
          subst h
          simp only [V] at hv
          obtain ⟨B, base, hi, rfl⟩ := hv
          refine ⟨.pointer (some ⟨B, base + (off + fd.offset), none⟩), ?_, ?_⟩
          · simp [Instr.fieldAt, run_underlying hd, hf, Instr.sureAddr, hpl, Nat.add_assoc]
          · simp only [V]
            exact ⟨B, base, hi, rfl⟩
        · rename_i cs
          simp only [Option.some.injEq] at h
          subst h
          simp only [V] at hv
          obtain ⟨B, o, vs, rfl, hI, ha, hvs⟩ := hv
          refine ⟨.pointer (some ⟨B, o + fd.offset, none⟩), ?_, ?_⟩
          · simp [Instr.fieldAt, run_underlying hd, hf, Instr.sureAddr, hpl]
          · simp only [V]
            exact ⟨B, o + fd.offset, vs.drop fd.offset, rfl, hI, At_drop _ ha, Vs_drop _ hvs⟩
        · rename_i id cs
          simp only [Option.some.injEq] at h
          subst h
          simp only [V] at hv
          obtain ⟨B, o, vs, _, _, rfl, hI, ha, hvs, _⟩ := hv
          refine ⟨.pointer (some ⟨B, o + fd.offset, none⟩), ?_, ?_⟩
          · simp [Instr.fieldAt, run_underlying hd, hf, Instr.sureAddr, hpl]
          · simp only [V]
            exact ⟨B, o + fd.offset, vs.drop fd.offset, rfl, hI, At_drop _ ha, Vs_drop _ hvs⟩
        · cases h
      · cases h
    · cases h
  · cases h

theorem fieldA_sim {c : Cx} {t : TypeId} {x r : AVal} {v : Value} {f : Nat} (h : fieldA P t x f = some r) (hv : V c x v) (w : World) :
    ∃ u, (Instr.field t v f).run P w = .ok u w ∧ V c r u := by
  unfold fieldA at h
  split at h
  · rename_i fs cs hd
    split at h
    · rename_i fd hf
      split at h
      · simp only [V] at hv
        obtain ⟨vs, rfl, hvs⟩ := hv
        obtain ⟨u, h1, h2⟩ := partA_sim h hvs w
        exact ⟨u, by simp [Instr.field, run_underlying hd, hf, asAgg, h1], h2⟩
      · cases h
    · cases h
  · cases h

theorem idxA_sim {c : Cx} {x : AVal} {v : Value} {i : Nat} (h : idxA x = some i) (hv : V c x v) : ∃ k n, v = .int k n ∧ 0 ≤ n ∧ n.toNat = i := by
  unfold idxA at h
  split at h
  · rename_i k n
    split at h
    · rename_i h0
      simp only [Option.some.injEq] at h
      simp only [V] at hv
      exact ⟨k, n, hv, h0, h⟩
    · cases h
  · cases h

theorem Vss_row {c : Cx} {sz : Nat} : ∀ {rows : List (List AVal)} {vs : List Value} {i : Nat} {r : List AVal}, Vss c sz rows vs → rows[i]? = some r → Vs c r ((vs.drop (i * sz)).take sz) ∧ i * sz + sz ≤ vs.length
  | [], _, _, _, _, h => by simp at h
  | x :: rows, _, 0, r, hv, h => by
    simp only [Vss] at hv
    obtain ⟨us, ws, rfl, hl, h1, h2⟩ := hv
    simp at h
    subst h
    subst hl
    simpa using h1
  | x :: rows, _, i + 1, r, hv, h => by
    simp only [Vss] at hv
    obtain ⟨us, ws, rfl, hl, h1, h2⟩ := hv
    simp at h
    obtain ⟨h3, h4⟩ := Vss_row h2 h
    have e : (i + 1) * sz = us.length + i * sz := by rw [hl, Nat.succ_mul, Nat.add_comm]
    refine ⟨?_, ?_⟩
    · rw [e, ← List.drop_drop, List.drop_left]
      exact h3
    · rw [e, List.length_append]
      omega

theorem Vss_length {c : Cx} {sz : Nat} : ∀ {rows : List (List AVal)} {vs : List Value}, Vss c sz rows vs → vs.length = rows.length * sz
  | [], _, h => by simp [Vss] at h; simp [h]
  | x :: rows, _, h => by
    simp only [Vss] at h
    obtain ⟨us, ws, rfl, hl, h1, h2⟩ := h
    rw [List.length_append, Vss_length h2, hl, List.length_cons, Nat.succ_mul, Nat.add_comm]

theorem indexAddrA_sim {c : Cx} {t : TypeId} {x i r : AVal} {v vi : Value} (h : indexAddrA P t x i = some r) (hv : V c x v) (hi : V c i vi) (w : World) :
    ∃ u, (Instr.indexAt t v vi).run P w = .ok u w ∧ V c r u := by
  unfold indexAddrA at h
  split at h
  · cases h
  · rename_i j hj
    obtain ⟨k, n, rfl, h0, rfl⟩ := idxA_sim hj hi
    split at h
    · rename_i len e hd
      split at h
      · rename_i hok
        have hlt : (0 ≤ n ∧ n < (len : Int)) := ⟨h0, by omega⟩
        split at h
        · rename_i b off
          simp only [Option.some.injEq] at h
          subst h
          simp only [V] at hv
          obtain ⟨B, base, hb, rfl⟩ := hv
          refine ⟨.pointer (some ⟨B, base + (off + n.toNat * szOf P e), none⟩), ?_, ?_⟩
          · simp [Instr.indexAt, asIntOf, run_underlying hd, Instr.sureAddr, hlt, run_sizeOf hok.2, add_plain, Nat.add_assoc]
          · simp only [V]
            exact ⟨B, base, hb, rfl⟩
        · rename_i cs
          simp only [Option.some.injEq] at h
          subst h
          simp only [V] at hv
          obtain ⟨B, o, vs, rfl, hI, ha, hvs⟩ := hv
          refine ⟨.pointer (some ⟨B, o + n.toNat * szOf P e, none⟩), ?_, ?_⟩
          · simp [Instr.indexAt, asIntOf, run_underlying hd, Instr.sureAddr, hlt, run_sizeOf hok.2, add_plain]
          · simp only [V]
            exact ⟨B, _, _, rfl, hI, At_drop _ ha, Vs_drop _ hvs⟩
        · cases h
      · cases h
    · rename_i e hd
      split at h
      · rename_i hok
        split at h
        · rename_i sz rows ex
          split at h
          · rename_i hsz
            subst hsz
            rw [Option.map_eq_some_iff] at h
            obtain ⟨row, hrow, rfl⟩ := h
            simp only [V] at hv
            obtain ⟨B, o, cap, vs, rfl, hcap, _, hI, ha, hvs⟩ := hv
            obtain ⟨h1, h2⟩ := Vss_row hvs hrow
            have hlen : n.toNat < rows.length := by
              rcases Nat.lt_or_ge n.toNat rows.length with h | h
              · exact h
              · rw [List.getElem?_eq_none h] at hrow; cases hrow
            have hlt : (0 ≤ n ∧ n < (rows.length : Int)) := ⟨h0, by omega⟩
            refine ⟨.pointer (some ⟨B, o + n.toNat * szOf P e, none⟩), ?_, ?_⟩
            · simp [Instr.indexAt, asIntOf, run_underlying hd, hlt, run_sizeOf hok, add_plain]
            · simp only [V]
              exact ⟨B, _, _, rfl, hI, At_take _ (At_drop _ ha), h1⟩
          · cases h
        · rename_i sz b off len cap ex
          split at h
          · rename_i hsz
            obtain ⟨rfl, hl⟩ := hsz
            simp only [Option.some.injEq] at h
            subst h
            simp only [V] at hv
            obtain ⟨B, base, k', o, hb, rfl, ho, h1, h2, h3, h4⟩ := hv
            have hlt : (0 ≤ n ∧ n < (len : Int)) := ⟨h0, by omega⟩
            have ho' := ho (by omega)
            subst ho'
            refine ⟨.pointer (some ⟨B, base + (off + n.toNat * szOf P e), none⟩), ?_, ?_⟩
            · simp [Instr.indexAt, asIntOf, run_underlying hd, hlt, run_sizeOf hok, add_plain, Nat.add_assoc]
            · simp only [V]
              exact ⟨B, base, hb, rfl⟩
          · cases h
        · cases h
      · cases h
    · cases h

theorem indexA_sim {c : Cx} {t : TypeId} {x i r : AVal} {v vi : Value} (h : indexA P t x i = some r) (hv : V c x v) (hi : V c i vi) (w : World) :
    ∃ u, (Instr.index t v vi).run P w = .ok u w ∧ V c r u := by
  unfold indexA at h
  split at h
  · cases h
  · rename_i j hj
    obtain ⟨k, n, rfl, h0, rfl⟩ := idxA_sim hj hi
    split at h
    · rename_i len e cs hd
      split at h
      · rename_i hok
        simp only [V] at hv
        obtain ⟨vs, rfl, hvs⟩ := hv
        obtain ⟨u, h1, h2⟩ := partA_sim h hvs w
        have hlt : (0 ≤ n ∧ n < (len : Int)) := ⟨h0, by omega⟩
        exact ⟨u, by simp [Instr.index, asIntOf, run_underlying hd, hlt, run_sizeOf hok.2, h1], h2⟩
      · cases h
    · rename_i s hd
      rw [Option.map_eq_some_iff] at h
      obtain ⟨b, hb, rfl⟩ := h
      simp only [V] at hv
      obtain ⟨s', rfl, rfl⟩ := hv
      have hb' : s'[n.toNat]? = some b := by
        rw [← hb, Array.getElem?_toList]
        rfl
      refine ⟨.int .u8 b.toNat, ?_, by simp [V]⟩
      simp [Instr.index, asIntOf, run_underlying hd, h0, hb']
    · cases h

end Go.Am

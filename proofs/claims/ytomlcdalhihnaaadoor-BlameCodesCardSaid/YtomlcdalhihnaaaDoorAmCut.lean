/- A run over trees in two parts: between them what a cell or a block holds may go by another name. Generic: over any program. -/
import Derived.Test.YtomlcdalhihnaaaDoorAmFast
import Derived.Test.YtomlcdalhihnaaaDoorAmMono
namespace Go.Am

structure St3 where
  l : List Code
  r : Rg
  h : Hp
def St3.Ok (s : St3) : Prop := s.r.Ok ∧ s.h.Ok

noncomputable def headsF (S : AStat) (HT : FuncId → Option HookT) (lo N : Nat) : Nat → List Code → Rg → Hp → Option St3
  | 0, l, r, h => some ⟨l, r, h⟩
  | k + 1, c :: l, r, h => match execF S HT N lo c r h with
    | some (.normal, r', h') => headsF S HT lo N k l r' h'
    | _ => none
  | _ + 1, [], _, _ => none

theorem headsF_ok {S : AStat} {HT : FuncId → Option HookT} (hH : HookSim S HT) {lo N : Nat} : ∀ {k : Nat} {l : List Code} {r : Rg} {h : Hp} {s : St3}, r.Ok → h.Ok → headsF S HT lo N k l r h = some s →
    s.Ok ∧ headsA S lo N k l r.toL h.toL = some (s.l, s.r.toL, s.h.toL)
  | 0, l, r, h, s, hr, ho, e => by
    simp only [headsF, Option.some.injEq] at e
    subst e
    exact ⟨⟨hr, ho⟩, rfl⟩
  | k + 1, [], r, h, s, hr, ho, e => by cases e
  | k + 1, c :: l, r, h, s, hr, ho, e => by
    simp only [headsF] at e
    split at e
    · rename_i r1 h1 e1
      obtain ⟨k1, k2, k3⟩ := execF_ok hH N _ _ _ _ _ _ _ hr ho e1
      simp only [headsA, k3]
      exact headsF_ok hH k1 k2 e
    · cases e

noncomputable def execLF (S : AStat) (HT : FuncId → Option HookT) (N lo : Nat) : List Code → Rg → Hp → Option (AExit × Rg × Hp)
  | [], r, h => some (.normal, r, h)
  | c :: l, r, h => match execF S HT N lo c r h with
    | some (.normal, r', h') => execLF S HT N lo l r' h'
    | x => x

theorem execLF_ok {S : AStat} {HT : FuncId → Option HookT} (hH : HookSim S HT) {N lo : Nat} : ∀ {l : List Code} {r : Rg} {h : Hp} {x : AExit} {r' : Rg} {h' : Hp}, r.Ok → h.Ok → execLF S HT N lo l r h = some (x, r', h') →
    r'.Ok ∧ h'.Ok ∧ execL S N lo l r.toL h.toL = some (x, r'.toL, h'.toL)
  | [], r, h, x, r', h', hr, ho, e => by
    simp only [execLF, Option.some.injEq, Prod.mk.injEq] at e
    obtain ⟨rfl, rfl, rfl⟩ := e
    exact ⟨hr, ho, rfl⟩
  | c :: l, r, h, x, r', h', hr, ho, e => by
    simp only [execLF] at e
    simp only [execL]
    split at e
    · rename_i r1 h1 e1
      obtain ⟨k1, k2, k3⟩ := execF_ok hH N _ _ _ _ _ _ _ hr ho e1
      simp only [k3]
      exact execLF_ok hH k1 k2 e
    · rename_i hne
      obtain ⟨k1, k2, k3⟩ := execF_ok hH N _ _ _ _ _ _ _ hr ho e
      refine ⟨k1, k2, ?_⟩
      simp only [k3]
      cases x with
      | normal => exact (hne _ _ e).elim
      | _ => rfl

noncomputable def tailF (S : AStat) (HT : FuncId → Option HookT) (N : Nat) (fn : Func) (s : St3) : Option AVal :=
  match execLF S HT N 0 s.l s.r s.h with
  | none => none
  | some (.exit _, _, _) => none
  | some (_, r', h') =>
    match resultsG S r'.get h'.get fn.results.toList with
    | none => none
    | some vs => some (tupled vs)

noncomputable def headF (S : AStat) (HT : FuncId → Option HookT) (N k : Nat) (fn : Func) (body : Code) (av : List AVal) : Option St3 :=
  bif Nat.ble av.length fn.ntmps && Nat.ble fn.ntmps 512 then headsF S HT 0 N k (flat body []) (Rg.frame av fn.ntmps) Hp.empty else none

/-- One and the same state. -/
def St3.Same (s t : St3) : Prop := t.Ok ∧ t.l = s.l ∧ t.r.toL = s.r.toL ∧ t.h.toL = s.h.toL

/-- A law's function (its own way of ending: keep), run in two parts. -/
theorem run_two {S : AStat} {HT : FuncId → Option HookT} (hH : HookSim S HT) {f : FuncId} {fn : Func} {body : Code} (hf : S.P.funcs[f]? = some fn) (hb : fn.body = some body) (hk : S.hook f = none) (hp : S.pol f = .keep) {av : List AVal}
    {N k M : Nat} {s : St3} (h : headF S HT N k fn body av = some s) {t : St3} (hst : s.Ok → s.Same t) {v : AVal} (ht : tailF S HT M fn t = some v) : ∃ n H', runA S n 0 f av [] = some (v, H') := by
  unfold headF at h
  cases hc : (Nat.ble av.length fn.ntmps && Nat.ble fn.ntmps 512) with
  | false => rw [hc] at h; cases h
  | true =>
    rw [hc] at h
    simp only [cond_true] at h
    simp only [Bool.and_eq_true, Nat.ble_eq] at hc
    obtain ⟨h1, h2⟩ := headsF_ok hH (frame_ok av fn.ntmps hc.2) Hp.empty_ok h
    rw [frame_toL av fn.ntmps hc.2 hc.1, Hp.empty_toL] at h2
    obtain ⟨hto, e1, e2, e3⟩ := hst h1
    unfold tailF at ht
    split at ht
    · cases ht
    · cases ht
    · rename_i x r' h' hne hex
      obtain ⟨k1, k2, k3⟩ := execLF_ok hH hto.1 hto.2 hex
      rw [e1, e2, e3] at k3
      split at ht
      · cases ht
      · rename_i vs hvs
        simp only [Option.some.injEq] at ht
        subst ht
        rw [resultsG_eq S k1 k2] at hvs
        obtain ⟨n, hn⟩ := CallRuns.of_tail (S := S) (lo := 0) hf hb hk (H := []) (N := N) (k := k) (M := M) (l' := s.l) (ρ' := s.r.toL) (H' := s.h.toL) (r := (tupled vs, h'.toL)) (by
          unfold headA
          rw [hp]
          exact h2) (by
          unfold tailA
          rw [hp]
          simp only [Pol.lo, k3]
          cases x with
          | exit i => exact (hne i rfl).elim
          | normal => simp only [hvs, finish]
          | ret => simp only [hvs, finish])
        exact ⟨n, _, hn⟩

theorem Same.refl {s : St3} (h : s.Ok) : s.Same s := ⟨h, rfl, rfl, rfl⟩
theorem Same.trans {a b c : St3} (h : a.Same b) (k : b.Same c) : a.Same c := ⟨k.1, k.2.1.trans h.2.1, k.2.2.1.trans h.2.2.1, k.2.2.2.trans h.2.2.2⟩

theorem list_set_self {α : Type} {l : List α} {i : Nat} {v : α} (h : l[i]? = some v) : l.set i v = l := by
  apply List.ext_getElem?
  intro j
  rw [List.getElem?_set]
  split
  · rename_i hij
    subst hij
    rw [h]
    split
    · rfl
    · rename_i hl
      rw [List.getElem?_eq_none (by omega)] at h
      cases h
  · rfl

/-- A block goes by another name. -/
theorem Same.blk {s : St3} (h : s.Ok) {b : Nat} {x : Option ABlk} (hb : s.h.get b = some x) : s.Same ⟨s.l, s.r, s.h.set b x⟩ := by
  refine ⟨⟨h.1, Hp.set_ok h.2 b x⟩, rfl, rfl, ?_⟩
  rw [Hp.set_toL h.2]
  exact list_set_self (by rw [Hp.get_toL h.2]; exact hb)

/-- A cell goes by another name. -/
theorem Same.cell {s : St3} (h : s.Ok) {i : Nat} {v : AVal} (hi : s.r.get? i = some v) : s.Same ⟨s.l, s.r.set i v, s.h⟩ := by
  refine ⟨⟨Rg.set_ok h.1 i v, h.2⟩, rfl, ?_, rfl⟩
  rw [Rg.set_toL h.1]
  exact list_set_self (by rw [Rg.get?_toL h.1]; exact hi)

/-- Several cells and blocks go by other names. -/
noncomputable def St3.put (s : St3) (rs : List (Nat × AVal)) (bs : List (Nat × Option ABlk)) : St3 :=
  ⟨s.l, rs.foldl (fun r x => r.set x.1 x.2) s.r, bs.foldl (fun h x => h.set x.1 x.2) s.h⟩
noncomputable def St3.holds (s : St3) (rs : List (Nat × AVal)) (bs : List (Nat × Option ABlk)) : Prop :=
  (∀ x ∈ rs, s.r.get? x.1 = some x.2) ∧ ∀ x ∈ bs, s.h.get x.1 = some x.2

theorem Same.put {s : St3} (h : s.Ok) {rs : List (Nat × AVal)} {bs : List (Nat × Option ABlk)} (hh : s.holds rs bs) : s.Same (s.put rs bs) := by
  have h1 : ∀ (rs : List (Nat × AVal)) (r : Rg), r.Ok → r.toL = s.r.toL → (∀ x ∈ rs, s.r.get? x.1 = some x.2) → (rs.foldl (fun r x => r.set x.1 x.2) r).Ok ∧ (rs.foldl (fun r x => r.set x.1 x.2) r).toL = s.r.toL := by
    intro rs
    induction rs with
    | nil => exact fun r h1 h2 _ => ⟨h1, h2⟩
    | cons x rs ih =>
      intro r h1 h2 h3
      refine ih _ (Rg.set_ok h1 _ _) ?_ (fun y hy => h3 y (by simp [hy]))
      rw [Rg.set_toL h1, h2]
      exact list_set_self (by rw [Rg.get?_toL h.1]; exact h3 x (by simp))
  have h2 : ∀ (bs : List (Nat × Option ABlk)) (r : Hp), r.Ok → r.toL = s.h.toL → (∀ x ∈ bs, s.h.get x.1 = some x.2) → (bs.foldl (fun h x => h.set x.1 x.2) r).Ok ∧ (bs.foldl (fun h x => h.set x.1 x.2) r).toL = s.h.toL := by
    intro bs
    induction bs with
    | nil => exact fun r h1 h2 _ => ⟨h1, h2⟩
    | cons x bs ih =>
      intro r h1 h2 h3
      refine ih _ (Hp.set_ok h1 _ _) ?_ (fun y hy => h3 y (by simp [hy]))
      rw [Hp.set_toL h1, h2]
      exact list_set_self (by rw [Hp.get_toL h.2]; exact h3 x (by simp))
  obtain ⟨a1, a2⟩ := h1 rs s.r h.1 rfl hh.1
  obtain ⟨b1, b2⟩ := h2 bs s.h h.2 rfl hh.2
  exact ⟨⟨a1, b1⟩, rfl, a2, b2⟩

noncomputable def St3.reads (s : St3) (rs bs : List Nat) : List (Option AVal) × List (Option (Option ABlk)) := (rs.map s.r.get?, bs.map s.h.get)

theorem holds_of_reads {s : St3} {rs : List (Nat × AVal)} {bs : List (Nat × Option ABlk)} (h : s.reads (rs.map (·.1)) (bs.map (·.1)) = (rs.map (some ·.2), bs.map (some ·.2))) : s.holds rs bs := by
  simp only [St3.reads, Prod.mk.injEq, List.map_map, List.map_inj_left] at h
  exact ⟨fun x hx => h.1 x hx, fun x hx => h.2 x hx⟩

/-- THE RULE: run the head; what it holds at these places (rs, bs) is known by other names (rs', bs'); run the tail at those. -/
theorem run_cut {S : AStat} {HT : FuncId → Option HookT} (hH : HookSim S HT) {f : FuncId} {fn : Func} {body : Code} (hf : S.P.funcs[f]? = some fn) (hb : fn.body = some body) (hk : S.hook f = none) (hp : S.pol f = .keep) {av : List AVal}
    (N k M : Nat) (rs rs' : List (Nat × AVal)) (bs bs' : List (Nat × Option ABlk)) (e1 : rs = rs') (e2 : bs = bs')
    (h : (headF S HT N k fn body av).map (fun s => s.reads (rs.map (·.1)) (bs.map (·.1))) = some (rs.map (some ·.2), bs.map (some ·.2))) {v : AVal}
    (ht : ((headF S HT N k fn body av).bind fun s => tailF S HT M fn (s.put rs' bs')) = some v) : ∃ n H', runA S n 0 f av [] = some (v, H') := by
  subst e1 e2
  cases hh : headF S HT N k fn body av with
  | none => rw [hh] at h; cases h
  | some s =>
    rw [hh] at h ht
    simp only [Option.map_some, Option.some.injEq] at h
    simp only [Option.bind_some] at ht
    exact run_two hH hf hb hk hp hh (fun hs => Same.put hs (holds_of_reads h)) ht

end Go.Am

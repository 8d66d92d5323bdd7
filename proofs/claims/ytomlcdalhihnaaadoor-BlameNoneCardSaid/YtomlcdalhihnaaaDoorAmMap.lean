/- That the model's operations keep to the idealised ones: maps. Generic: over any program. -/
import Derived.Test.YtomlcdalhihnaaaDoorAmSim3
namespace Go.Am
open Go.RowKit
variable {P : Program}

theorem intB_of {a : AVal} (h : intB a = true) : ∃ k n, a = .int k n := by
  cases a <;> simp [intB] at h
  exact ⟨_, _, rfl⟩

theorem run_part_int {e : TypeId} {kk : IntKind} (he : P.underlying e = some (.int kk)) {xs : Array Value} {i : Nat} {v : Value} (h : xs[i]? = some v) (w : World) : (part e xs i).run P w = .ok v w := by
  simp [part, run_isAgg he, aggD, h]

theorem Vs_cons {c : Cx} {a : AVal} {as : List AVal} {vs : List Value} : Vs c (a :: as) vs ↔ ∃ v us, vs = v :: us ∧ V c a v ∧ Vs c as us := by simp [Vs]

theorem mget {r : Nat} {es : Array MapEntry} {clock : Nat} {w : World} (hb : w.heap[r]? = some (.map es clock)) : (getObj r).run P w = .ok (.map es clock) w := by
  simp [getObj, Sem.run, hb]
theorem mset {w : World} {r : Nat} {es : Array MapEntry} {clock : Nat} (o : Obj) (hb : w.heap[r]? = some (.map es clock)) : (setObj r o).run P w = .ok () { w with heap := w.heap.setIfInBounds r o } := by
  simp [setObj, Sem.run, hb]
theorem mfind {w : World} {kt : TypeId} {d : TypeDesc} {k : Value} {l : List MapEntry} {a : Option (Nat × Value)} (hd : P.underlying kt = some d) (h : Instr.findNow d k l 0 = some a) : (Instr.findKey kt k l).run P w = .ok a w := by
  simp [Instr.findKey, run_underlying hd, Result.andThen, h]
theorem mheap {w : World} {r : Nat} {o o' : Obj} (hb : w.heap[r]? = some o) : (w.heap.setIfInBounds r o')[r]? = some o' ∧ ∀ r', r' ≠ r → (w.heap.setIfInBounds r o')[r']? = w.heap[r']? := by
  have hlt : r < w.heap.size := (Array.getElem?_eq_some_iff.1 hb).1
  exact ⟨by simp [hlt], fun r' hne => by simp [Ne.symm hne]⟩

theorem eqItems_sim {c : Cx} {e : TypeId} {kk : IntKind} (he : P.underlying e = some (.int kk)) (d : Nat) (w : World) : ∀ (as bs : List AVal) (i : Nat) (us vs : List Value) (xs ys : Array Value) {r : Bool},
    intsEq as bs = some r → Vs c as us → Vs c bs vs → (∀ j, us[j]? = xs[i + j]?) → (∀ j, vs[j]? = ys[i + j]?) →
    (Op.eqItems (d + 1) e 1 xs ys (List.range' i as.length)).run P w = .ok r w
  | [], [], i, us, vs, xs, ys, r, h, _, _, _, _ => by
    simp only [intsEq, Option.some.injEq] at h
    subst h
    simp [Op.eqItems]
  | .int k x :: as, .int k' y :: bs, i, us, vs, xs, ys, r, h, hu, hv, hx, hy => by
    simp only [intsEq] at h
    split at h
    · rename_i hk
      subst hk
      rw [Vs_cons] at hu hv
      obtain ⟨u, us', rfl, h1, h2⟩ := hu
      obtain ⟨v, vs', rfl, h3, h4⟩ := hv
      simp only [V] at h1 h3
      subst h1 h3
      have p1 := run_part_int (P := P) he (xs := xs) (i := i) (v := .int k x) (by have := hx 0; simpa using this.symm) w
      have p2 := run_part_int (P := P) he (xs := ys) (i := i) (v := .int k y) (by have := hy 0; simpa using this.symm) w
      have p3 := run_equalIn_int w d e k kk x y he
      simp only [List.length_cons, List.range'_succ, Op.eqItems, Nat.mul_one, Sem.run_bind, p1, p2, p3, Result.andThen_ok]
      split at h
      · rename_i hxy
        subst hxy
        simp only [BEq.rfl, Bool.not_true, Bool.false_eq_true, if_false]
        have := eqItems_sim he d w as bs (i + 1) us' vs' xs ys h h2 h4 (fun j => by have := hx (j + 1); simp only [List.getElem?_cons_succ] at this; rw [this]; congr 1; omega) (fun j => by have := hy (j + 1); simp only [List.getElem?_cons_succ] at this; rw [this]; congr 1; omega)
        exact this
      · rename_i hxy
        simp only [Option.some.injEq] at h
        subst h
        have : (x == y) = false := by simpa using hxy
        simp [this]
    · cases h

theorem keyEq_sim {c : Cx} {kt : TypeId} {k : KeyKind} (hk : keyKind P kt = some k) {x y : AVal} {r : Bool} (h : keyEq k x y = some r) {a b : Value} (ha : V c x a) (hb : V c y b) (w : World) :
    (Op.equal kt a b).run P w = .ok r w ∧ Instr.sameBits 10000 b a = true ∨ (Op.equal kt a b).run P w = .ok r w ∧ r = false := by
  have hrun : (Op.equal kt a b).run P w = .ok r w := by
    unfold keyKind at hk
    split at hk
    · rename_i kk hd
      simp only [Option.some.injEq] at hk
      subst hk
      unfold keyEq at h
      split at h <;> first | (rename_i e; cases e; done) | skip
      · rename_i k1 p k2 q e
        split at h
        · rename_i hkk
          subst hkk
          simp only [Option.some.injEq] at h
          subst h
          simp only [V] at ha hb
          subst ha hb
          exact run_equalIn_int w 9999 kt _ _ _ _ hd
        · cases h
      · cases h
    · rename_i hd
      simp only [Option.some.injEq] at hk
      subst hk
      unfold keyEq at h
      split at h <;> first | (rename_i e; cases e; done) | skip
      · simp only [Option.some.injEq] at h
        subst h
        simp only [V] at ha hb
        obtain ⟨s, rfl, rfl⟩ := ha
        obtain ⟨s', rfl, rfl⟩ := hb
        have := run_equalIn_string (P := P) w 9999 kt s s' hd
        rw [ByteArray.toList_eq, ByteArray.toList_eq] at this
        exact this
      · cases h
    · rename_i n e hd
      split at hk
      · rename_i kk he
        split at hk
        · rename_i hsz
          simp only [Option.some.injEq] at hk
          subst hk
          unfold keyEq at h
          split at h <;> first | (rename_i e; cases e; done) | skip
          · rename_i n' e' xs ys eq
            cases eq
            split at h
            · rename_i hl
              simp only [V] at ha hb
              obtain ⟨us, rfl, h1⟩ := ha
              obtain ⟨vs, rfl, h2⟩ := hb
              obtain ⟨i, hi⟩ := Option.isSome_iff_exists.1 (info_of_underlying he)
              have := run_equalIn_array (P := P) w 9999 us.toArray vs.toArray hd hi
              have hcell : P.cellsOf e = 1 := hsz
              rw [hcell] at this
              have h3 := eqItems_sim (P := P) he 9998 w xs ys 0 us vs us.toArray vs.toArray h h1 h2 (fun j => by simp) (fun j => by simp)
              rw [hl.1, ← List.range_eq_range'] at h3
              exact this.trans h3
            · cases h
          · cases h
        · cases hk
      · cases hk
    · cases hk
  cases r with
  | false => exact .inr ⟨hrun, rfl⟩
  | true =>
    refine .inl ⟨hrun, ?_⟩
    unfold keyEq at h
    split at h
    · split at h
      · rename_i hkk
        subst hkk
        simp only [Option.some.injEq, beq_iff_eq] at h
        subst h
        simp only [V] at ha hb
        subst ha hb
        simp [Instr.sameBits]
      · cases h
    · simp only [Option.some.injEq, beq_iff_eq] at h
      subst h
      simp only [V] at ha hb
      obtain ⟨s, rfl, hs⟩ := ha
      obtain ⟨s', rfl, hs'⟩ := hb
      have : s = s' := by
        obtain ⟨⟨l⟩⟩ := s
        obtain ⟨⟨l'⟩⟩ := s'
        simp only at hs hs'
        rw [hs, hs']
      subst this
      simp only [Instr.sameBits]
      rw [beq_toListBytes]
      simp
    · split at h
      · rename_i hl
        simp only [V] at ha hb
        obtain ⟨us, rfl, h1⟩ := ha
        obtain ⟨vs, rfl, h2⟩ := hb
        have key : ∀ (as bs : List AVal) (us vs : List Value), intsEq as bs = some true → Vs c as us → Vs c bs vs → vs.length = us.length ∧ (vs.zip us).all (fun p => Instr.sameBits 9999 p.1 p.2) = true := by
          intro as
          induction as with
          | nil =>
            intro bs us vs h hu hv
            cases bs with
            | nil => simp [Vs] at hu hv; subst hu hv; simp
            | cons _ _ => simp [intsEq] at h
          | cons a as ih =>
            intro bs us vs h hu hv
            cases bs with
            | nil => cases a <;> simp [intsEq] at h
            | cons b bs =>
              cases a <;> cases b <;> simp only [intsEq] at h <;> first | (cases h; done) | skip
              split at h
              · rename_i hk
                subst hk
                split at h
                · rename_i hxy
                  subst hxy
                  rw [Vs_cons] at hu hv
                  obtain ⟨u, us', rfl, g1, g2⟩ := hu
                  obtain ⟨v, vs', rfl, g3, g4⟩ := hv
                  simp only [V] at g1 g3
                  subst g1 g3
                  obtain ⟨g5, g6⟩ := ih bs us' vs' h g2 g4
                  refine ⟨by simp [g5], ?_⟩
                  rw [List.zip_cons_cons, List.all_cons, g6]
                  simp [Instr.sameBits]
                · cases h
              · cases h
        obtain ⟨g1, g2⟩ := key _ _ us vs h h1 h2
        have : Instr.sameBits (9999 + 1) (.agg vs.toArray) (.agg us.toArray) = true := by
          simp only [Instr.sameBits, List.size_toArray, g1, BEq.rfl, Bool.true_and]
          exact g2
        exact this
      · cases h
    · cases h

theorem keyEq_run {c : Cx} {kt : TypeId} {k : KeyKind} (hk : keyKind P kt = some k) {x y : AVal} {r : Bool} (h : keyEq k x y = some r) {a b : Value} (ha : V c x a) (hb : V c y b) (w : World) :
    (Op.equal kt a b).run P w = .ok r w := by
  rcases keyEq_sim hk h ha hb w with ⟨h1, _⟩ | ⟨h1, _⟩ <;> exact h1

def KeyKind.wide : KeyKind → Bool
  | .ints _ _ => true
  | _ => false

def hitOf (ms : List MapEntry) (i : Nat) : Option (Nat × AVal) → Option (Nat × Value)
  | none => none
  | some (j, _) => (ms[j - i]?).map fun m => (j, m.val)

/-- A search among entries. -/
theorem findA_sim {c : Cx} {kt : TypeId} {k : KeyKind} (hk : keyKind P kt = some k) {x : AVal} {a : Value} (ha : V c x a) (w : World) : ∀ (es : List (AVal × AVal)) (ms : List MapEntry) (i : Nat) {r : Option (Nat × AVal)},
    findA k x es i = some r → Es c es ms →
    ((Instr.findAsking kt a ms i).run P w = .ok (hitOf ms i r) w ∧
     (∀ D, P.underlying kt = some D → (k.wide = true → ms = []) → Instr.findNow D a ms i = some (hitOf ms i r))) ∧
    (∀ j v, r = some (j, v) → i ≤ j ∧ ∃ m, ms[j - i]? = some m ∧ V c v m.val ∧ ∃ y, es[j - i]? = some (y, v) ∧ keyEq k x y = some true ∧ V c y m.key)
  | [], ms, i, r, h, hm => by
    simp only [findA, Option.some.injEq] at h
    subst h
    simp only [Es] at hm
    subst hm
    exact ⟨⟨by simp [Instr.findAsking, hitOf], fun D _ _ => by simp [Instr.findNow, hitOf]⟩, (fun j v e => by cases e)⟩
  | (y, v) :: es, ms, i, r, h, hm => by
    simp only [Es] at hm
    obtain ⟨m, ns, rfl, hy, hv, hns⟩ := hm
    simp only [findA] at h
    have now : ∀ D b, P.underlying kt = some D → k.wide = false → keyEq k x y = some b → Instr.sameNow D a m.key = some b := by
      intro D b hD hki hb
      unfold keyKind at hk
      rw [hD] at hk
      cases D <;> simp only at hk <;> first | (cases hk; done) | skip
      · simp only [Option.some.injEq] at hk
        subst hk
        unfold keyEq at hb
        split at hb <;> first | (rename_i e; cases e; done) | skip
        · split at hb
          · rename_i hkk
            subst hkk
            simp only [Option.some.injEq] at hb
            subst hb
            simp only [V] at ha hy
            subst ha
            rw [hy]
            simp [Instr.sameNow]
          · cases hb
        · cases hb
      · simp only [Option.some.injEq] at hk
        subst hk
        unfold keyEq at hb
        split at hb <;> first | (rename_i e; cases e; done) | skip
        · simp only [Option.some.injEq] at hb
          subst hb
          simp only [V] at ha hy
          obtain ⟨s, rfl, rfl⟩ := ha
          obtain ⟨s', hs', rfl⟩ := hy
          rw [hs']
          simp [Instr.sameNow, beq_toListBytes, ByteArray.toList_eq]
        · cases hb
      · split at hk
        · split at hk
          · simp only [Option.some.injEq] at hk
            subst hk
            cases hki
          · cases hk
        · cases hk
    split at h
    · cases h
    · rename_i he
      simp only [Option.some.injEq] at h
      subst h
      have hrun := keyEq_run hk he ha hy w
      refine ⟨⟨?_, fun D hD hki => ?_⟩, ?_⟩
      · simp only [Instr.findAsking, Sem.run_bind, hrun, Result.andThen_ok, if_true, Sem.run_pure, hitOf, Nat.sub_self, List.getElem?_cons_zero, Option.map_some]
      · have : k.wide = false := by cases hw : k.wide with | false => rfl | true => (have := hki hw; cases this)
        simp only [Instr.findNow, now D true hD this he, hitOf, Nat.sub_self, List.getElem?_cons_zero, Option.map_some]
      · intro j v' e
        simp only [Option.some.injEq, Prod.mk.injEq] at e
        obtain ⟨rfl, rfl⟩ := e
        exact ⟨Nat.le_refl _, m, by simp, hv, y, by simp, he, hy⟩
    · rename_i he
      have hrun := keyEq_run hk he ha hy w
      obtain ⟨⟨h1, h2⟩, h3⟩ := findA_sim hk ha w es ns (i + 1) h hns
      have conv : (hitOf ns (i + 1) r) = (hitOf (m :: ns) i r) := by
        cases r with
        | none => rfl
        | some p =>
          obtain ⟨j, v'⟩ := p
          obtain ⟨hj, _⟩ := h3 j v' rfl
          simp only [hitOf]
          rw [show j - i = (j - (i + 1)) + 1 by omega, List.getElem?_cons_succ]
      refine ⟨⟨?_, fun D hD hki => ?_⟩, ?_⟩
      · simp only [Instr.findAsking, Sem.run_bind, hrun, Result.andThen_ok, Bool.false_eq_true, if_false, h1, conv]
      · have : k.wide = false := by cases hw : k.wide with | false => rfl | true => (have := hki hw; cases this)
        rw [← conv]
        simp only [Instr.findNow, now D false hD this he]
        exact h2 D hD (fun hw => by rw [this] at hw; cases hw)
      · intro j v' e
        obtain ⟨hj, m', g1, g2, y', g3, g4, g5⟩ := h3 j v' e
        refine ⟨by omega, m', ?_, g2, y', ?_, g4, g5⟩
        · rw [show j - i = (j - (i + 1)) + 1 by omega, List.getElem?_cons_succ]; exact g1
        · rw [show j - i = (j - (i + 1)) + 1 by omega, List.getElem?_cons_succ]; exact g3

theorem run_checks {e : TypeId} {kk : IntKind} (he : P.underlying e = some (.int kk)) (em : Bool) (d : Nat) (xs : Array Value) (hx : ∀ j, j < xs.size → ∃ k n, xs[j]? = some (.int k n)) (w : World) : ∀ l : List Nat, (∀ j ∈ l, j < xs.size) →
    (forIn l PUnit.unit (fun i _ => do Instr.checkKey em (d + 1) e (← part e xs i); pure (ForInStep.yield PUnit.unit)) : Sem PUnit).run P w = .ok PUnit.unit w
  | [], _ => rfl
  | j :: l, h => by
    obtain ⟨k, n, hj⟩ := hx j (h j (List.mem_cons_self ..))
    have p1 := run_part_int (P := P) he hj w
    have p2 : (Instr.checkKey em (d + 1) e (.int k n)).run P w = .ok () w := by simp [Instr.checkKey, run_underlying he]
    have ih := run_checks he em d xs hx w l fun j hj => h j (List.mem_cons_of_mem _ hj)
    rw [List.forIn_cons]
    simp only [Sem.run_bind, p1, p2, Result.andThen_ok, Sem.run_pure]
    exact ih

theorem keyOk_sim {c : Cx} {kt : TypeId} {k : KeyKind} (hk : keyKind P kt = some k) {x : AVal} (h : keyOk k x = true) {a : Value} (ha : V c x a) (em : Bool) (w : World) : (Instr.checkKey em 10000 kt a).run P w = .ok () w := by
  unfold keyKind at hk
  split at hk
  · rename_i kk hd
    simp only [Option.some.injEq] at hk
    subst hk
    unfold keyOk at h
    split at h <;> first | (rename_i e; cases e; done) | skip
    · simp only [V] at ha
      subst ha
      rename_i kx nx _
      have : ∀ n, (Instr.checkKey em (n + 1) kt (.int kx nx)).run P w = .ok () w := fun n => by simp [Instr.checkKey, run_underlying hd]
      exact this 9999
    · cases h
  · rename_i hd
    simp only [Option.some.injEq] at hk
    subst hk
    unfold keyOk at h
    split at h <;> first | (rename_i e; cases e; done) | skip
    · simp only [V] at ha
      obtain ⟨s, rfl, _⟩ := ha
      have : ∀ n, (Instr.checkKey em (n + 1) kt (.string s)).run P w = .ok () w := fun n => by simp [Instr.checkKey, run_underlying hd]
      exact this 9999
    · cases h
  · rename_i n e hd
    split at hk
    · rename_i kk he
      split at hk
      · rename_i hsz
        simp only [Option.some.injEq] at hk
        subst hk
        unfold keyOk at h
        split at h <;> first | (rename_i e; cases e; done) | skip
        · rename_i n' e' cs eq
          cases eq
          simp only [Bool.and_eq_true, beq_iff_eq] at h
          obtain ⟨hl, hall⟩ := h
          simp only [V] at ha
          obtain ⟨vs, rfl, hvs⟩ := ha
          have hlen := Vs_length hvs
          have hx : ∀ j, j < vs.toArray.size → ∃ k n, vs.toArray[j]? = some (.int k n) := by
            intro j hj
            simp only [List.size_toArray] at hj
            have hj' : j < cs.length := by omega
            obtain ⟨v, h1, h2⟩ := Vs_get hvs (List.getElem?_eq_getElem hj')
            obtain ⟨k, n, e⟩ := intB_of (List.all_eq_true.1 hall _ (List.getElem_mem hj'))
            rw [e] at h2
            simp only [V] at h2
            subst h2
            exact ⟨k, n, by simpa using h1⟩
          show (Instr.checkKey em (9999 + 1) kt _).run P w = _
          unfold Instr.checkKey
          have hs : szOf P e = 1 := hsz
          simp only [Sem.run_bind, run_underlying hd, Result.andThen_ok]
          simp only [Std.Legacy.Range.forIn_eq_forIn_range', Std.Legacy.Range.size, Nat.sub_zero, Nat.add_one_sub_one, Nat.div_one]
          have := run_checks (P := P) he em 9998 vs.toArray hx w (List.range' 0 n) (by intro j hj; rw [List.mem_range'] at hj; simp; omega)
          have hso : ∀ w, (sizeOf e).run P w = .ok 1 w := fun w => by rw [run_sizeOf (info_of_underlying he), hs]
          have conv : ∀ (l : List Nat) w, (forIn l PUnit.unit (fun i _ => do Instr.checkKey em 9999 e (← part e vs.toArray (i * (← sizeOf e))); pure (ForInStep.yield PUnit.unit)) : Sem PUnit).run P w =
              (forIn l PUnit.unit (fun i _ => do Instr.checkKey em (9998 + 1) e (← part e vs.toArray i); pure (ForInStep.yield PUnit.unit)) : Sem PUnit).run P w := by
            intro l
            induction l with
            | nil => intro w; rfl
            | cons j l ih =>
              intro w
              rw [List.forIn_cons, List.forIn_cons]
              simp only [Sem.run_bind, hso, Result.andThen_ok, Nat.mul_one]
              cases hp : (part e vs.toArray j).run P w with
              | halt x w1 => simp [Result.andThen]
              | ok v w1 =>
                simp only [Result.andThen_ok]
                cases hq : (Instr.checkKey em 9999 e v).run P w1 with
                | halt x w2 => simp [Result.andThen]
                | ok u w2 =>
                  simp only [Result.andThen_ok, Sem.run_pure]
                  exact ih w2
          have h2 := (conv (List.range' 0 n) w).trans this
          rw [h2]
          rfl
        · cases h
      · cases hk
    · cases hk
  · cases hk

theorem run_findKey' {c : Cx} {kt : TypeId} {k : KeyKind} (hk : keyKind P kt = some k) {x : AVal} {a : Value} (ha : V c x a) (w : World) {es : List (AVal × AVal)} {ms : List MapEntry} {r : Option (Nat × AVal)}
    (h : findA k x es 0 = some r) (hes : Es c es ms) : (Instr.findKey kt a ms).run P w = .ok (hitOf ms 0 r) w := by
  obtain ⟨⟨h1, h2⟩, _⟩ := findA_sim hk ha w es ms 0 h hes
  cases hw : k.wide with
  | true =>
    have hwide : (match P.underlying kt with | some (.array _ _) | some (.struct _) => true | _ => false) = true := by
      unfold keyKind at hk
      split at hk
      · simp only [Option.some.injEq] at hk; subst hk; cases hw
      · simp only [Option.some.injEq] at hk; subst hk; cases hw
      · rename_i hd; rw [hd]
      · cases hk
    rw [run_findKey_eq w hwide]
    exact h1
  | false =>
    obtain ⟨D, hD⟩ : ∃ D, P.underlying kt = some D := by
      unfold keyKind at hk
      cases hd : P.underlying kt with
      | none => rw [hd] at hk; cases hk
      | some D => exact ⟨D, rfl⟩
    exact mfind hD (h2 D hD (fun e => by rw [hw] at e; cases e))

theorem lookupA_sim {c : Cx} {H : Heap} (hR : Rel c H) {t : TypeId} {m x r : AVal} {vm vx : Value} {ok : Bool} (h : lookupA P t H m x ok = some r) (hm : V c m vm) (hx : V c x vx) :
    ∃ u, (Instr.lookup t vm vx ok).run P c.w = .ok u c.w ∧ V c r u := by
  unfold lookupA at h
  split at h
  case h_2 => cases h
  rename_i kt et hd
  split at h
  case h_2 => cases h
  rename_i k z hk hz
  split at h
  case isFalse => cases h
  rename_i hok
  obtain ⟨zv, hz1, hz2⟩ := run_zeroValue (P := P) (c := c) hz c.w
  have fin : ∀ (v : Value) (a : AVal) (b : Bool), V c a v → V c (if ok then .tup [a, .bool b] else a) (if ok then .tuple #[v, .bool b] else v) := by
    intro v a b hv
    cases ok
    · simpa using hv
    · simp only [if_true, V]
      exact ⟨[v, .bool b], rfl, by simp only [Vs, V]; exact ⟨_, _, rfl, hv, _, _, rfl, rfl, rfl⟩⟩
  split at h
  · simp only [Option.some.injEq] at h
    subst h
    simp only [V] at hm
    subst hm
    refine ⟨_, ?_, fin zv z false hz2⟩
    have hf := run_findKey' (P := P) hk hx c.w (es := []) (ms := []) (r := none) (by simp [findA]) (by simp [Es])
    simp only [Instr.lookup, Sem.run_bind, run_underlying hd, Result.andThen_ok, Sem.run_pure, keyOk_sim hk hok hx]
    simp only [hf, hitOf, Result.andThen_ok, Sem.run_bind, hz1, Sem.run_pure]
  · rename_i b
    simp only [V] at hm
    obtain ⟨B, hi, rfl⟩ := hm
    split at h
    · rename_i es hb
      obtain ⟨B', base', hi2, _, _, _, ms, clock, hmm, hes⟩ := hR.blk b _ hb
      rw [hi] at hi2
      simp only [Option.some.injEq, Prod.mk.injEq] at hi2
      obtain ⟨rfl, rfl⟩ := hi2
      split at h
      · rename_i j v hf
        simp only [Option.some.injEq] at h
        subst h
        obtain ⟨_, h3⟩ := findA_sim hk hx c.w es ms.toList 0 hf hes
        obtain ⟨_, me, g1, g2, _⟩ := h3 j v rfl
        simp only [Nat.sub_zero] at g1
        have hrun := run_findKey' (P := P) hk hx c.w hf hes
        simp only [hitOf, Nat.sub_zero, g1, Option.map_some] at hrun
        refine ⟨_, ?_, fin me.val v true g2⟩
        simp only [Instr.lookup, Sem.run_bind, run_underlying hd, Result.andThen_ok, mget hmm, Sem.run_pure, keyOk_sim hk hok hx]
        simp only [hrun, Result.andThen_ok]
        rfl
      · rename_i hf
        simp only [Option.some.injEq] at h
        subst h
        have hrun := run_findKey' (P := P) hk hx c.w hf hes
        simp only [hitOf] at hrun
        refine ⟨_, ?_, fin zv z false hz2⟩
        simp only [Instr.lookup, Sem.run_bind, run_underlying hd, Result.andThen_ok, mget hmm, Sem.run_pure, keyOk_sim hk hok hx]
        simp only [hrun, Result.andThen_ok, Sem.run_bind, hz1, Sem.run_pure]
      · cases h
    · cases h
  · cases h

theorem Es_set {c : Cx} : ∀ {es : List (AVal × AVal)} {ms : List MapEntry} {i : Nat} {k v : AVal} {m : MapEntry}, Es c es ms → V c k m.key → V c v m.val → Es c (es.set i (k, v)) (ms.set i m)
  | [], _, _, _, _, _, h, _, _ => by simp [Es] at h; subst h; simp [Es]
  | (k0, v0) :: es, _, 0, k, v, m, h, hk, hv => by
    simp only [Es] at h
    obtain ⟨m0, ns, rfl, _, _, h3⟩ := h
    simp only [List.set_cons_zero, Es]
    exact ⟨m, ns, rfl, hk, hv, h3⟩
  | (k0, v0) :: es, _, i + 1, k, v, m, h, hk, hv => by
    simp only [Es] at h
    obtain ⟨m0, ns, rfl, h1, h2, h3⟩ := h
    simp only [List.set_cons_succ, Es]
    exact ⟨m0, _, rfl, h1, h2, Es_set h3 hk hv⟩

theorem Es_push {c : Cx} : ∀ {es : List (AVal × AVal)} {ms : List MapEntry} {k v : AVal} {m : MapEntry}, Es c es ms → V c k m.key → V c v m.val → Es c (es ++ [(k, v)]) (ms ++ [m])
  | [], _, _, _, m, h, hk, hv => by
    simp [Es] at h
    subst h
    simp only [List.nil_append, Es]
    exact ⟨m, [], rfl, hk, hv, rfl⟩
  | (k0, v0) :: es, _, k, v, m, h, hk, hv => by
    simp only [Es] at h
    obtain ⟨m0, ns, rfl, h1, h2, h3⟩ := h
    simp only [List.cons_append, Es]
    exact ⟨m0, _, rfl, h1, h2, Es_push h3 hk hv⟩

theorem mapUpdateA_sim {c : Cx} {H : Heap} (hR : Rel c H) {lo : Nat} {t : TypeId} {m x v : AVal} {H' : Heap} {vm vx vv : Value} (h : mapUpdateA P lo t H m x v = some H') (hm : V c m vm) (hx : V c x vx) (hv : V c v vv) :
    ∃ c', Rel c' H' ∧ Tr c H c' H' ∧ Low lo c H c' H' ∧ (Instr.mapUpdate t vm vx vv).run P c.w = .ok () c'.w := by
  unfold mapUpdateA at h
  split at h
  case h_2 => cases h
  rename_i kt et hd
  split at h
  case h_2 => cases h
  rename_i k hk
  split at h
  case isFalse => cases h
  rename_i hok
  split at h
  case h_2 => cases h
  rename_i b
  split at h
  case isFalse => cases h
  rename_i hlo
  split at h
  case h_2 => cases h
  rename_i es hb
  simp only [V] at hm
  obtain ⟨B, hi, rfl⟩ := hm
  obtain ⟨B', base', hi2, _, hBlt, _, ms, clock, hmm, hes⟩ := hR.blk b _ hb
  rw [hi] at hi2
  simp only [Option.some.injEq, Prod.mk.injEq] at hi2
  obtain ⟨rfl, rfl⟩ := hi2
  have upd : ∀ (es' : List (AVal × AVal)) (ms' : Array MapEntry) (clock' : Nat), Es c es' ms'.toList →
      Rel { c with w := { c.w with heap := c.w.heap.setIfInBounds B (.map ms' clock') } } (H.set b (some (.mp es'))) ∧ Tr c H { c with w := { c.w with heap := c.w.heap.setIfInBounds B (.map ms' clock') } } (H.set b (some (.mp es'))) ∧
      Low lo c H { c with w := { c.w with heap := c.w.heap.setIfInBounds B (.map ms' clock') } } (H.set b (some (.mp es'))) := by
    intro es' ms' clock' hes'
    obtain ⟨g1, g2⟩ := mheap (w := c.w) (o' := .map ms' clock') hmm
    obtain ⟨h1, h2⟩ := hR.update (blk' := .mp es') hb hi { c.w with heap := c.w.heap.setIfInBounds B (.map ms' clock') } (by simp) (fun X hX => g2 X hX) (fun X t n hs => by
      by_cases hX : X = B
      · subst hX
        simp [World.shape?, hmm] at hs
      · rw [shape_of_block (w := c.w)]
        · exact hs
        · exact g2 X hX) rfl rfl rfl (fun hE => ⟨rfl, ms', clock', g1, Es_ext hE _ _ hes'⟩)
    exact ⟨h1, h2, hR.set_low hlo hb hi (fun X hX => g2 X hX) (fun y z hy hyz => by rw [List.getElem?_set, if_neg (fun e => hy e.symm)]; exact hyz) (fun _ _ h => h) (by simp)⟩
  split at h
  · rename_i j v0 hf
    simp only [Option.some.injEq] at h
    subst h
    obtain ⟨_, h3⟩ := findA_sim hk hx c.w es ms.toList 0 hf hes
    obtain ⟨_, me, g1, g2, y, g3, g4, g5⟩ := h3 j v0 rfl
    simp only [Nat.sub_zero] at g1
    have hrun := run_findKey' (P := P) hk hx c.w hf hes
    simp only [hitOf, Nat.sub_zero, g1, Option.map_some] at hrun
    have hsame : Instr.sameBits 10000 me.key vx = true := by
      rcases keyEq_sim (P := P) hk g4 hx g5 c.w with ⟨_, hs⟩ | ⟨_, hs⟩
      · exact hs
      · cases hs
    have hms : ms[j]? = some me := by simpa using g1
    have hmod : (ms.modify j fun e => { e with key := vx, val := vv }).toList = ms.toList.set j { me with key := vx, val := vv } := by
      apply List.ext_getElem?
      intro q
      rw [List.getElem?_set]
      simp only [Array.getElem?_toList, Array.getElem?_modify]
      split
      · rename_i hq
        subst hq
        have : j < ms.toList.length := by
          rcases Nat.lt_or_ge j ms.toList.length with h | h
          · exact h
          · rw [List.getElem?_eq_none h] at g1; cases g1
        rw [if_pos this, hms]
        rfl
      · rfl
    obtain ⟨h4, h5, h6⟩ := upd (es.set j (x, v)) (ms.modify j fun e => { e with key := vx, val := vv }) clock (by rw [hmod]; exact Es_set hes hx hv)
    refine ⟨_, h4, h5, h6, ?_⟩
    simp only [Instr.mapUpdate, Sem.run_bind, run_underlying hd, Result.andThen_ok, mget hmm, keyOk_sim hk hok hx, hrun, hms, Option.map_some, Option.getD_some, Instr.keyThatStays, hsame, if_true, Sem.run_pure]
    rw [mset _ hmm]
  · rename_i hf
    simp only [Option.some.injEq] at h
    subst h
    have hrun := run_findKey' (P := P) hk hx c.w hf hes
    simp only [hitOf] at hrun
    obtain ⟨h4, h5, h6⟩ := upd (es ++ [(x, v)]) (ms.push { key := vx, val := vv, born := clock }) (clock + 1) (by rw [Array.toList_push]; exact Es_push hes hx hv)
    refine ⟨_, h4, h5, h6, ?_⟩
    simp only [Instr.mapUpdate, Sem.run_bind, run_underlying hd, Result.andThen_ok, mget hmm, keyOk_sim hk hok hx, hrun]
    rw [mset _ hmm]
  · cases h

end Go.Am

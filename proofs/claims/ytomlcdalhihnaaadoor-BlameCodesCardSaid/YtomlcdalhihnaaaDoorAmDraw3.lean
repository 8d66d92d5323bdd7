/- That a region whose order is open keeps to the idealised one, in whatever order: the steps. Generic: over any program. -/
import Derived.Test.YtomlcdalhihnaaaDoorAmDraw2
namespace Go.Am
open Go.RowKit
variable {S : AStat} {call : CallF} {lo n0 : Nat} {ops : Array Oper} {B : List Nat} {reads : List (Nat × Nat)} {touches : List (Nat × Option (List Nat))} {ρs : Nat → List AVal} {Hs : Nat → Heap}
variable {c0 c : Cx} {H0 : Heap} {D : Nat → Bool} {tE : Nat} {a : Act}

theorem Rel.sub {c : Cx} {H H2 : Heap} (hR : Rel c H) (hsub : ∀ (b : Nat) (blk : ABlk), H2[b]? = some (some blk) → H[b]? = some (some blk)) (hl : H.length ≤ H2.length) : Rel c H2 :=
  ⟨fun b blk h => hR.blk b blk (hsub b blk h), fun b b' x x' B y y' h h' => hR.inj b b' x x' B y y' (hsub b x h) (hsub b' x' h'), fun b hb => hR.fresh b (by omega), hR.lt⟩

theorem Tr.sub {c : Cx} {H H2 : Heap} (hsub : ∀ (b : Nat) (blk : ABlk), H2[b]? = some (some blk) → H[b]? = some (some blk)) : Tr c H c H2 :=
  ⟨Ext.refl c, Nat.le_refl _, fun _ _ _ => rfl, (fun B _ h => by obtain ⟨b, blk, base, h1, h2⟩ := h; exact ⟨b, blk, base, hsub b blk h1, h2⟩), fun _ _ h => .inl h, rfl, rfl, rfl⟩

theorem op_at {ops : Array Oper} {p : Nat} (h : p < ops.size) : ∃ x, ops[p]? = some x := ⟨ops[p], by simp [h]⟩

theorem newW_new {m : Nat} (h : newW S ops ρs m = true) : newAt ops m = true ∧ m < ops.size := by
  unfold newW at h
  unfold newAt
  cases ho : ops[m]? with
  | none => rw [ho] at h; cases h
  | some o =>
    rw [ho] at h
    simp only [Bool.and_eq_true] at h
    exact ⟨h.1, (Array.getElem?_eq_some_iff.1 ho).1⟩

theorem isN_spec {b : Nat} (h : isN S ops ρs n0 b = true) : n0 ≤ b ∧ newW S ops ρs (b - n0) = true := by
  simpa [isN] using h

theorem isN_of {m : Nat} (h : newW S ops ρs m = true) : isN S ops ρs n0 (n0 + m) = true := by
  simp [isN, h]

theorem new_not_eff {m : Nat} (h : newAt ops m = true) : effAt ops m = false := by
  unfold newAt at h
  unfold effAt
  cases ho : ops[m]? with
  | none => rfl
  | some o =>
    rw [ho] at h
    simp only at h ⊢
    generalize o.op = op at *
    cases op <;> simp [isNewB, isEffB] at h ⊢

/-- Effects ahead of the last one done are done. -/
theorem Inv.effs (T : Tra S call lo n0 ops B reads touches ρs Hs) (I : Inv S lo n0 ops ρs Hs c0 H0 D tE c a) {k : Nat} (hk : k < tE) (he : effAt ops k = true) : D k = true := by
  rcases I.last with h | ⟨p, h, hp, hpe⟩
  · omega
  · rcases Nat.eq_or_lt_of_le (show k ≤ p by omega) with h1 | h1
    · rw [h1]; exact hp
    · have hplt := I.dlt p hp
      have hok : ops[k]? = some ops[k] := by simp [show k < ops.size by omega]
      have hop : ops[p]? = some ops[p] := by simp [hplt]
      rcases T.pair.pair k p _ _ h1 hok hop with h2 | ⟨_, h2⟩
      · exact T.bits D I.down p k hplt hp h2
      · exact absurd ⟨by simpa [effAt, hok] using he, by simpa [effAt, hop] using hpe⟩ h2

/-- Nothing that is done was behind what is ready. -/
theorem Inv.not_behind (T : Tra S call lo n0 ops B reads touches ρs Hs) (I : Inv S lo n0 ops ρs Hs c0 H0 D tE c a) {i : Nat} {o : Oper} (hr : Ready ops D i o) {j : Nat} (hj : D j = true) : (B.getD j 0).testBit i = false := by
  cases h : (B.getD j 0).testBit i with
  | false => rfl
  | true =>
    have := T.bits D I.down j i (I.dlt j hj) hj h
    rw [hr.not] at this
    cases this

/-- An effect that is ready is the next one. -/
theorem Inv.next (T : Tra S call lo n0 ops B reads touches ρs Hs) (I : Inv S lo n0 ops ρs Hs c0 H0 D tE c a) {i : Nat} {o : Oper} (hr : Ready ops D i o) (he : effAt ops i = true) : tE ≤ i ∧ ∀ k, k < i → effAt ops k = true → k < tE := by
  have hi : i < ops.size := (Array.getElem?_eq_some_iff.1 hr.op).1
  refine ⟨?_, ?_⟩
  · rcases I.last with h | ⟨p, h, hp, hpe⟩
    · omega
    · rcases Nat.lt_trichotomy p i with h1 | h1 | h1
      · omega
      · subst h1; rw [hr.not] at hp; cases hp
      · obtain ⟨y, hop⟩ := op_at (I.dlt p hp)
        rcases T.pair.pair i p _ _ h1 hr.op hop with h2 | ⟨_, h2⟩
        · rw [I.not_behind T hr hp] at h2; cases h2
        · exact absurd ⟨by simpa [effAt, hr.op] using he, by simpa [effAt, hop] using hpe⟩ h2
  · intro k hk hke
    have hok : ops[k]? = some ops[k] := by simp [show k < ops.size by omega]
    rcases T.pair.pair k i _ _ hk hok hr.op with h2 | ⟨_, h2⟩
    · exact I.eff k (hr.bit T.bits T.lt I.down h2) hke
    · exact absurd ⟨by simpa [effAt, hok] using hke, by simpa [effAt, hr.op] using he⟩ h2

/-- What an operation looks at reads as it should. -/
theorem Inv.look (T : Tra S call lo n0 ops B reads touches ρs Hs) (I : Inv S lo n0 ops ρs Hs c0 H0 D tE c a) {i : Nat} {o : Oper} (hr : Ready ops D i o) {s : Nat} (hs : s ∈ o.looksAt ops) : V c ((ρs i).getD s undefA) (a.tmps.getD s undef) := by
  have hi : i < ops.size := (Array.getElem?_eq_some_iff.1 hr.op).1
  obtain ⟨t, h1, h2, h3, h4⟩ := I.slots s
  have hti : t ≤ i := by
    rcases h2 with h | ⟨p, h, hp, hd⟩
    · omega
    · rcases Nat.lt_trichotomy p i with g | g | g
      · omega
      · subst g; rw [hr.not] at hp; cases hp
      · obtain ⟨y, hop⟩ := op_at (I.dlt p hp)
        rcases T.pair.pair i p _ _ g hr.op hop with h5 | ⟨h5, _⟩
        · rw [I.not_behind T hr hp] at h5; cases h5
        · exact absurd hs ((Oper.apart_spec h5).2.2 s (by simpa [dstAt, hop] using hd))
  have := T.slot s (i - t) t (by omega) (by
    intro j hj1 hj2 hd
    have hjn : j < ops.size := by omega
    have hoj : ops[j]? = some ops[j] := by simp [hjn]
    have hji : j < i := by omega
    rcases T.pair.pair j i _ _ hji hoj hr.op with h5 | ⟨h5, _⟩
    · have := h3 j (hr.bit T.bits T.lt I.down h5) hd
      omega
    · exact (Oper.apart_spec h5).1 s (by simpa [dstAt, hoj] using hd) hs)
  rw [show t + (i - t) = i by omega] at this
  rw [this]
  exact h4

theorem Inv.evOn (T : Tra S call lo n0 ops B reads touches ρs Hs) (I : Inv S lo n0 ops ρs Hs c0 H0 D tE c a) {i : Nat} {o : Oper} (hr : Ready ops D i o) : EvOn S c (ρs i) a o.op.operands := by
  intro x hx
  cases x with
  | tmp t =>
    have : t ∈ o.looksAt ops := by
      unfold Oper.looksAt
      refine List.mem_append.2 (.inl ?_)
      rw [List.mem_filterMap]
      exact ⟨.tmp t, by simpa using hx, rfl⟩
    exact I.look T hr this
  | const v => exact constA_V c v
  | global g =>
    simp only [evalA, Act.eval]
    split
    · rename_i cs h
      exact I.glob g cs h
    · simp [V]
  | func f =>
    simp only [evalA, Act.eval, V]
    exact ⟨[], [], rfl, by simp [Vs], by simp [Vs]⟩

theorem Inv.guard (T : Tra S call lo n0 ops B reads touches ρs Hs) (I : Inv S lo n0 ops ρs Hs c0 H0 D tE c a) {i : Nat} {o : Oper} (hr : Ready ops D i o) {g : Bool} (h : guardA ops.toList (ρs i) o = some g) : Region.wanted o (yielded ops a.tmps) = g := by
  have hi : i < ops.size := (Array.getElem?_eq_some_iff.1 hr.op).1
  have hlen : (ρs i).length = a.tmps.size := by rw [T.len i (by omega), I.size]
  unfold guardA at h
  unfold Region.wanted
  split at h
  · rename_i hg
    simp only [Option.some.injEq] at h
    rw [hg]
    exact h
  · rename_i j want hg
    rw [hg]
    simp only
    have hops : ops.toList[j]? = ops[j]? := by simp
    rw [hops] at h
    split at h
    · rename_i hd
      simp only [Option.some.injEq] at h
      subst h
      simp [yielded, hd]
    · rename_i d hd
      have hmem : d ∈ o.looksAt ops := by
        unfold Oper.looksAt
        refine List.mem_append.2 (.inr ?_)
        rw [hg]
        simp [hd]
      have hV := I.look T hr hmem
      split at h
      · rename_i hn
        simp only [Option.some.injEq] at h
        subst h
        have : a.tmps[d]? = none := by
          rw [List.getElem?_eq_none_iff] at hn
          rw [Array.getElem?_eq_none_iff]
          omega
        simp [yielded, hd, this]
      · rename_i bv hn
        simp only [Option.some.injEq] at h
        subst h
        have hlt : d < a.tmps.size := Nat.lt_of_lt_of_eq (List.getElem?_eq_some_iff.1 hn).1 hlen
        rw [List.getD_eq_getElem?_getD, hn] at hV
        simp only [Option.getD_some, V] at hV
        have : a.tmps[d]? = some (.bool bv) := by
          rw [Array.getD_eq_getD_getElem?] at hV
          rw [Array.getElem?_eq_getElem hlt] at hV ⊢
          simpa using hV
        simp [yielded, hd, this]
      · cases h
      · rename_i av hnb hnj hn
        simp only [Option.some.injEq] at h
        subst h
        have hlt : d < a.tmps.size := Nat.lt_of_lt_of_eq (List.getElem?_eq_some_iff.1 hn).1 hlen
        rw [List.getD_eq_getElem?_getD, hn] at hV
        simp only [Option.getD_some] at hV
        have hv := not_bool hV (fun b e => hnb b e) (fun e => hnj e)
        have hy : yielded ops a.tmps j = none := by
          simp only [yielded, hd, Option.bind_some]
          rw [Array.getElem?_eq_getElem hlt]
          rw [Array.getD_eq_getD_getElem?, Array.getElem?_eq_getElem hlt] at hv
          simp only [Option.getD_some] at hv
          cases hval : a.tmps[d] <;> first | rfl | exact absurd hval (hv _)
        rw [hy]
        rfl

/-- The slots behind a step. -/
theorem Inv.slots' (T : Tra S call lo n0 ops B reads touches ρs Hs) (I : Inv S lo n0 ops ρs Hs c0 H0 D tE c a) {i : Nat} {o : Oper} (hr : Ready ops D i o) {c' : Cx} (hE : Ext c c') {v : AVal} {u : Value} (hv : V c' v u)
    (hρ : ρs (i + 1) = putA (ρs i) o.dst v) : ∀ s, ∃ t, t ≤ ops.size ∧ (t = 0 ∨ ∃ p, t = p + 1 ∧ (D p || p == i) = true ∧ dstAt ops p = some s) ∧ (∀ j, (D j || j == i) = true → dstAt ops j = some s → j < t) ∧
      V c' ((ρs t).getD s undefA) ((a.put o.dst u).tmps.getD s undef) := by
  have hi : i < ops.size := (Array.getElem?_eq_some_iff.1 hr.op).1
  have hlen : (ρs i).length = a.tmps.size := by rw [T.len i (by omega), I.size]
  intro s
  by_cases hs : o.dst = some s
  · refine ⟨i + 1, by omega, .inr ⟨i, rfl, by simp, by simp [dstAt, hr.op, hs]⟩, ?_, ?_⟩
    · intro j hj hd
      simp only [Bool.or_eq_true, beq_iff_eq] at hj
      rcases hj with hj | hj
      · rcases Nat.lt_trichotomy j i with h1 | h1 | h1
        · omega
        · omega
        · obtain ⟨y, hoj⟩ := op_at (I.dlt j hj)
          rcases T.pair.pair i j _ _ h1 hr.op hoj with h5 | ⟨h5, _⟩
          · rw [I.not_behind T hr hj] at h5; cases h5
          · exact absurd (by simpa [dstAt, hoj] using hd) ((Oper.apart_spec h5).2.1 s hs)
      · omega
    · rw [hρ, hs]
      simp only [putA, Act.put]
      rw [List.getD_eq_getElem?_getD, Array.getD_eq_getD_getElem?, List.getElem?_set, if_pos rfl]
      by_cases hlt : s < (ρs i).length
      · rw [if_pos hlt, Array.getElem?_setIfInBounds, if_pos rfl, if_pos (Nat.lt_of_lt_of_eq hlt hlen)]
        simpa using hv
      · rw [if_neg hlt, Array.getElem?_setIfInBounds, if_pos rfl, if_neg (fun h => hlt (Nat.lt_of_lt_of_eq h hlen.symm))]
        exact undef_V c'
  · obtain ⟨t, h1, h2, h3, h4⟩ := I.slots s
    refine ⟨t, h1, ?_, ?_, ?_⟩
    · rcases h2 with h | ⟨p, h, hp, hd⟩
      · exact .inl h
      · exact .inr ⟨p, h, by simp [hp], hd⟩
    · intro j hj hd
      simp only [Bool.or_eq_true, beq_iff_eq] at hj
      rcases hj with hj | hj
      · exact h3 j hj hd
      · subst hj
        simp only [dstAt, hr.op, Option.bind_some] at hd
        exact absurd hd hs
    · have : (a.put o.dst u).tmps.getD s undef = a.tmps.getD s undef := by
        cases hd : o.dst with
        | none => rfl
        | some d =>
          have : d ≠ s := fun e => hs (by rw [hd, e])
          simp only [Act.put, Array.getD_eq_getD_getElem?, Array.getElem?_setIfInBounds, if_neg this]
      rw [this]
      exact V_ext hE _ _ h4

theorem Inv.down' (I : Inv S lo n0 ops ρs Hs c0 H0 D tE c a) {i : Nat} {o : Oper} (hr : Ready ops D i o) : ∀ x o', ops[x]? = some o' → (D x || x == i) = true → ∀ e ∈ o'.after.toList, Region.binds .any e = true → (D e.on || e.on == i) = true := by
  intro x o' ho' hx e he hb
  simp only [Bool.or_eq_true, beq_iff_eq] at hx ⊢
  rcases hx with hx | hx
  · exact .inl (I.down x o' ho' hx e he hb)
  · subst hx
    rw [hr.op] at ho'
    cases ho'
    exact .inl (hr.pre e he hb)

theorem Inv.dlt' (I : Inv S lo n0 ops ρs Hs c0 H0 D tE c a) {i : Nat} {o : Oper} (hr : Ready ops D i o) : ∀ x, (D x || x == i) = true → x < ops.size := by
  intro x hx
  simp only [Bool.or_eq_true, beq_iff_eq] at hx
  rcases hx with hx | hx
  · exact I.dlt x hx
  · subst hx
    exact (Array.getElem?_eq_some_iff.1 hr.op).1

theorem put_size (a : Act) (d : Option Tmp) (v : Value) : (a.put d v).tmps.size = a.tmps.size := by cases d <;> simp [Act.put]

/-- The memory behind a step that leaves it, where the step is no effect. -/
theorem HD_calm {i : Nat} (hn : newW S ops ρs i = false) : HD S ops ρs Hs n0 (fun x => D x || x == i) tE = HD S ops ρs Hs n0 D tE := by
  unfold HD
  apply List.map_congr_left
  intro b _
  by_cases hb : isN S ops ρs n0 b = true
  · obtain ⟨_, h2⟩ := isN_spec hb
    have : (b - n0 == i) = false := by
      cases h : (b - n0 == i) with
      | false => rfl
      | true =>
        simp only [beq_iff_eq] at h
        rw [h, hn] at h2
        cases h2
    simp [this]
  · simp only [Bool.not_eq_true] at hb
    simp [hb]

/-- A step that is no effect and leaves memory. -/
theorem Inv.calm (T : Tra S call lo n0 ops B reads touches ρs Hs) (I : Inv S lo n0 ops ρs Hs c0 H0 D tE c a) {i : Nat} {o : Oper} (hr : Ready ops D i o) (he : effAt ops i = false) (hn : newW S ops ρs i = false) {v : AVal} {u : Value} (hv : V c v u)
    (hρ : ρs (i + 1) = putA (ρs i) o.dst v) : Inv S lo n0 ops ρs Hs c0 H0 (fun x => D x || x == i) tE c (a.put o.dst u) where
  tEn := I.tEn
  eff := by
    intro j hj hje
    simp only [Bool.or_eq_true, beq_iff_eq] at hj
    rcases hj with hj | hj
    · exact I.eff j hj hje
    · subst hj; rw [he] at hje; cases hje
  last := by
    rcases I.last with h | ⟨p, h1, h2, h3⟩
    · exact .inl h
    · exact .inr ⟨p, h1, by simp [h2], h3⟩
  slots := I.slots' T hr (Ext.refl c) hv hρ
  size := by rw [put_size]; exact I.size
  rel := by rw [HD_calm hn]; exact I.rel
  tr := by rw [HD_calm hn]; exact I.tr
  low := by rw [HD_calm hn]; exact I.low
  undone := by
    intro m hm hD
    simp only [Bool.or_eq_false_iff] at hD
    exact I.undone m hm hD.1
  defers := by rw [put_defers]; exact I.defers
  down := I.down' hr
  dlt := I.dlt' hr
  glob := I.glob
  base := I.base

/-- What a look sees is what it saw. -/
theorem Inv.seen (T : Tra S call lo n0 ops B reads touches ρs Hs) (I : Inv S lo n0 ops ρs Hs c0 H0 D tE c a) {i b : Nat} {o : Oper} {blk : ABlk} (hr : Ready ops D i o) (he : effAt ops i = false) (hn : newW S ops ρs i = false)
    (hread : (i, b) ∈ reads) (hlive : (Hs i)[b]? = some (some blk)) (hι : c.ι b ≠ none) : (HD S ops ρs Hs n0 D tE)[b]? = some (some blk) := by
  have hi : i < ops.size := (Array.getElem?_eq_some_iff.1 hr.op).1
  have hbE : b < (Hs tE).length := by
    rcases Nat.lt_or_ge b (Hs tE).length with h | h
    · exact h
    · exact absurd (I.rel.fresh b (by rw [HD_length]; exact h)) hι
  have hbi : b < (Hs i).length := (List.getElem?_eq_some_iff.1 hlive).1
  have hND : isN S ops ρs n0 b = true → D (b - n0) = true ∧ b - n0 < i := by
    intro hN
    obtain ⟨h1, h2⟩ := isN_spec hN
    have hbe : n0 + (b - n0) = b := by omega
    have hDm : D (b - n0) = true := by
      cases h : D (b - n0) with
      | true => rfl
      | false => exact absurd (by have := I.undone _ h2 h; rwa [hbe] at this) hι
    refine ⟨hDm, ?_⟩
    rcases Nat.lt_trichotomy (b - n0) i with h | h | h
    · exact h
    · rw [h, hn] at h2; cases h2
    · exfalso
      obtain ⟨hnew, hmlt⟩ := newW_new h2
      have hch := keep_chain' (Hs := Hs) (b := b) (p := i) (q := b - n0) (by omega) hbi (by
        intro j hj1 hj2
        by_cases hje : effAt ops j = true
        · have := T.keep_hidden (j := j) (m := b - n0) (by omega) hje hmlt hnew (by
            cases hb : (B.getD j 0).testBit (b - n0) with
            | false => rfl
            | true => have := T.lt _ _ hb; omega)
          rwa [hbe] at this
        · simp only [Bool.not_eq_true] at hje
          exact T.keep_calm (by omega) hje fun _ => by omega)
      have hom : ops[b - n0]? = some ops[b - n0] := by simp [hmlt]
      have hdead : (Hs (b - n0))[b]? = some none := by
        cases T.step _ _ hom with
        | skip hg _ _ =>
          simp [newW, hom, hg] at h2
        | new _ _ _ _ _ hd _ _ => rwa [hbe] at hd
        | eff _ h _ _ _ _ _ _ _ _ => simp [newAt, hom] at hnew; rw [hnew] at h; cases h
        | quiet _ h _ _ _ _ _ _ => simp [newAt, hom] at hnew; rw [hnew] at h; cases h
      rw [hch.1, hlive] at hdead
      cases hdead
  refine HD_live.2 ⟨hbE, fun hN => (hND hN).1, ?_⟩
  have far : ∀ j, j < ops.size → effAt ops j = true → (B.getD i 0).testBit j = false → (B.getD j 0).testBit i = false → Keep Hs j b := fun j h1 h2 h3 h4 => T.keep_far h1 h2 hread h3 h4
  have hτ : tE ≤ tm S ops ρs n0 tE b := by unfold tm; split <;> omega
  rcases Nat.lt_or_ge i (tm S ops ρs n0 tE b) with hlt | hge
  · have hτe : tm S ops ρs n0 tE b = tE := by
      unfold tm at hlt ⊢
      split
      · rename_i hN
        rw [if_pos hN] at hlt
        have := (hND hN).2
        omega
      · rfl
    rw [hτe] at hlt ⊢
    have hch := keep_chain' (Hs := Hs) (b := b) (p := i) (q := tE) (by omega) hbi (by
      intro j hj1 hj2
      have hjn : j < ops.size := by have := I.tEn; omega
      by_cases hje : effAt ops j = true
      · have hji : j ≠ i := fun e => by rw [e, he] at hje; cases hje
        have hDj := I.effs T hj2 hje
        refine far j hjn hje ?_ (I.not_behind T hr hDj)
        cases hb : (B.getD i 0).testBit j with
        | false => rfl
        | true => have := T.lt _ _ hb; omega
      · simp only [Bool.not_eq_true] at hje
        refine T.keep_calm hjn hje fun hnw hbj => ?_
        have hN : isN S ops ρs n0 b = true := by rw [hbj]; exact isN_of hnw
        have := (hND hN).2
        omega)
    rw [hch.1]
    exact hlive
  · have hbτ : b < (Hs (tm S ops ρs n0 tE b)).length := Nat.lt_of_lt_of_le hbE (T.mono _ hτ (by omega))
    have hch := keep_chain' (Hs := Hs) (b := b) (p := tm S ops ρs n0 tE b) (q := i) hge hbτ (by
      intro j hj1 hj2
      have hjn : j < ops.size := by omega
      by_cases hje : effAt ops j = true
      · have hDj : D j = false := by
          cases h : D j with
          | false => rfl
          | true => have := I.eff j h hje; omega
        refine far j hjn hje ?_ ?_
        · cases hb : (B.getD i 0).testBit j with
          | false => rfl
          | true => rw [hr.bit T.bits T.lt I.down hb] at hDj; cases hDj
        · cases hb : (B.getD j 0).testBit i with
          | false => rfl
          | true => have := T.lt _ _ hb; omega
      · simp only [Bool.not_eq_true] at hje
        refine T.keep_calm hjn hje fun hnw hbj => ?_
        have hN : isN S ops ρs n0 b = true := by rw [hbj]; exact isN_of hnw
        unfold tm at hj1
        rw [if_pos hN] at hj1
        omega)
    rw [← hch.1]
    exact hlive

end Go.Am

/- That the model's run keeps to the idealised one: code and calls. Generic: over any program. -/
import Derived.Test.YtomlcdalhihnaaaDoorAmDraw5
namespace Go.Am
open Go.RowKit

theorem opsA_sim {S : AStat} (hS : StatOk S) {call : CallF} (hC : CallOk S call) {lo : Nat} {ops : Array Oper} {Q : Exit → Act → World → Prop} :
    ∀ (l : List Oper) {ρ : List AVal} {H : Heap} {ρ' : List AVal} {H' : Heap} {c : Cx} {a : Act}, opsA S call lo ops.toList l ρ H = some (ρ', H') → Rel c H → GlobOk S c → Vs c ρ a.tmps.toList → a.defers = [] →
      (∀ e a' w', Post lo c H .normal ρ' H' e a' w' → Q e a' w') → wpList S.P ops Q l a c.w
  | [], ρ, H, ρ', H', c, a, h, hR, hG, hρ, hd, hQ => by
    simp only [opsA, Option.some.injEq, Prod.mk.injEq] at h
    obtain ⟨rfl, rfl⟩ := h
    exact hQ _ _ _ ⟨rfl, hd, c, rfl, hR, Tr.refl _ _, Low.refl _ _ _, hρ⟩
  | o :: l, ρ, H, ρ', H', c, a, h, hR, hG, hρ, hd, hQ => by
    simp only [opsA] at h
    split at h
    · cases h
    · rename_i hg
      have hw := guardA_sim hg hρ
      simp only [wpList]
      rw [if_neg (by rw [hw]; simp)]
      exact opsA_sim hS hC l h hR hG (putA_Vs hρ o.dst (undef_V c)) (by rw [put_defers]; exact hd) hQ
    · rename_i hg
      have hw := guardA_sim hg hρ
      simp only [wpList]
      rw [if_pos hw]
      split at h
      · cases h
      · rename_i v H1 hop
        refine .inl (opA_sim hS hC hR hG o (fun x _ => evalA_V hG hρ x) hop ?_)
        intro c' u h1 h2 h3 h4
        refine opsA_sim hS hC l h h1 (hG.ext h2.ext) (putA_Vs (Vs_ext h2.ext _ _ hρ) o.dst h4) (by rw [put_defers]; exact hd) ?_
        intro e a' w' hp
        exact hQ e a' w' (hp.trans h2 h3)

/-- The state with what was made from n0 on for all time. -/
def Cx.pop (c : Cx) (H : Heap) (n0 n : Nat) : Cx :=
  { c with
    ι := fun b => if b < n then c.ι b else none
    I := fun B => c.I B ∨ ∃ b blk base, n0 ≤ b ∧ H[b]? = some (some blk) ∧ c.ι b = some (B, base) }

theorem pop_ext (c : Cx) (H : Heap) (n0 n m : Nat) (h : n ≤ m) : Ext (c.pop H n0 n) (c.pop H n0 m) :=
  ⟨(fun b x hx => by
    simp only [Cx.pop] at hx ⊢
    split at hx
    · rw [if_pos (by omega)]; exact hx
    · cases hx), rfl, fun _ h => h, fun _ _ => rfl, fun _ _ _ h => h⟩

theorem pop_pure (c : Cx) (H : Heap) (n0 n : Nat) : (c.pop H n0 n).pure = c.pop H n0 0 := by
  simp [Cx.pop, Cx.pure]

theorem pure_pop (c : Cx) (H : Heap) (n0 n : Nat) : Ext c.pure (c.pop H n0 n).pure :=
  ⟨(fun _ _ h => by cases h), rfl, (fun _ h => .inl h), fun _ _ => rfl, fun _ _ _ h => h⟩

theorem frzs_sim {f : AVal → Option AVal} {c c' : Cx} (hf : ∀ a b, f a = some b → ∀ v, V c a v → V c' b v) : ∀ (as : List AVal) {bs : List AVal}, frzs f as = some bs → ∀ vs, Vs c as vs → Vs c' bs vs
  | [], bs, h, vs, hv => by
    simp only [frzs, Option.some.injEq] at h
    subst h
    simpa [Vs] using hv
  | a :: as, bs, h, vs, hv => by
    simp only [frzs] at h
    split at h
    · cases h
    · rename_i b hb
      split at h
      · cases h
      · rename_i bs' hbs
        simp only [Option.some.injEq] at h
        subst h
        simp only [Vs] at hv ⊢
        obtain ⟨v, us, rfl, h1, h2⟩ := hv
        exact ⟨v, us, rfl, hf a b hb v h1, frzs_sim hf as hbs us h2⟩

theorem frzss_sim {f : AVal → Option AVal} {c c' : Cx} (hf : ∀ a b, f a = some b → ∀ v, V c a v → V c' b v) (sz : Nat) : ∀ (rs : List (List AVal)) {bs : List (List AVal)}, frzss f rs = some bs → bs.length = rs.length ∧ ∀ vs, Vss c sz rs vs → Vss c' sz bs vs
  | [], bs, h => by
    simp only [frzss, Option.some.injEq] at h
    subst h
    exact ⟨rfl, fun vs hv => by simpa [Vss] using hv⟩
  | a :: as, bs, h => by
    simp only [frzss] at h
    split at h
    · cases h
    · rename_i b hb
      split at h
      · cases h
      · rename_i bs' hbs
        simp only [Option.some.injEq] at h
        subst h
        obtain ⟨h3, h4⟩ := frzss_sim hf sz as hbs
        refine ⟨by simp [h3], fun vs hv => ?_⟩
        simp only [Vss] at hv ⊢
        obtain ⟨us, ws, rfl, hl, h1, h2⟩ := hv
        exact ⟨us, ws, rfl, hl, frzs_sim hf a hb us h1, h4 ws h2⟩

def topN (n0 : Nat) (top : Bool) : Nat := if top then n0 else 0

theorem frz_sim {c : Cx} {H : Heap} (hR : Rel c H) (n0 : Nat) : ∀ (k : Nat) (top : Bool) (a : AVal) {b : AVal}, frz n0 H top k a = some b → ∀ v, V c a v → V (c.pop H n0 (topN n0 top)) b v
  | 0, _, _, _, h, _, _ => by cases h
  | k + 1, top, a, b, h, v, hv => by
    have ih := fun a b h v hv => frz_sim hR n0 k top a (b := b) h v hv
    have ih0 := fun a b h v hv => frz_sim hR n0 k false a (b := b) h v hv
    have pure0 : c.pop H n0 (topN n0 false) = (c.pop H n0 (topN n0 top)).pure := (pop_pure c H n0 (topN n0 top)).symm
    rw [pure0] at ih0
    have old : ∀ x B base, x < n0 → top = true → c.ι x = some (B, base) → (c.pop H n0 (topN n0 top)).ι x = some (B, base) := by
      intro x B base h1 h2 h3
      subst h2
      simp only [Cx.pop, topN]
      rw [if_pos (by simpa using h1)]
      exact h3
    unfold frz at h
    cases a <;> simp only at h
    case agg cs =>
      rw [Option.map_eq_some_iff] at h
      obtain ⟨bs, h1, rfl⟩ := h
      simp only [V] at hv ⊢
      obtain ⟨vs, rfl, h2⟩ := hv
      exact ⟨vs, rfl, frzs_sim ih cs h1 vs h2⟩
    case tup cs =>
      rw [Option.map_eq_some_iff] at h
      obtain ⟨bs, h1, rfl⟩ := h
      simp only [V] at hv ⊢
      obtain ⟨vs, rfl, h2⟩ := hv
      exact ⟨vs, rfl, frzs_sim ih cs h1 vs h2⟩
    case iface t x =>
      rw [Option.map_eq_some_iff] at h
      obtain ⟨y, h1, rfl⟩ := h
      simp only [V] at hv ⊢
      obtain ⟨u, rfl, h2⟩ := hv
      exact ⟨u, rfl, ih x y h1 u h2⟩
    case fn f x y =>
      split at h
      · rename_i x' y' h1 h2
        simp only [Option.some.injEq] at h
        subst h
        simp only [V] at hv ⊢
        obtain ⟨vs, us, rfl, h3, h4⟩ := hv
        exact ⟨vs, us, rfl, frzs_sim ih x h1 vs h3, frzs_sim ih y h2 us h4⟩
      · cases h
    case ptr x off =>
      simp only [V] at hv
      obtain ⟨B, base, hi, rfl⟩ := hv
      split at h
      · rename_i hlt
        split at h
        · rename_i ht
          simp only [Option.some.injEq] at h
          subst h
          simp only [V]
          exact ⟨B, base, old x B base hlt ht hi, rfl⟩
        · cases h
      · rename_i hlt
        split at h
        · rename_i cs hb
          rw [Option.map_eq_some_iff] at h
          obtain ⟨bs, h1, rfl⟩ := h
          obtain ⟨B0, base0, h3, _, _, _, _, vs, ha, hvs⟩ := hR.blk x _ hb
          rw [hi] at h3
          simp only [Option.some.injEq, Prod.mk.injEq] at h3
          obtain ⟨rfl, rfl⟩ := h3
          simp only [V]
          exact ⟨B, base + off, vs.drop off, rfl, .inr ⟨x, _, base, by omega, hb, hi⟩, At_drop off ha, frzs_sim ih0 _ h1 _ (Vs_drop off hvs)⟩
        · cases h
    case sl sz x off len cap ex =>
      simp only [V] at hv
      obtain ⟨B, base, kk, o, hi, rfl, ho, g1, g2, g3, g4⟩ := hv
      split at h
      · rename_i hlt
        split at h
        · rename_i ht
          simp only [Option.some.injEq] at h
          subst h
          simp only [V]
          exact ⟨B, base, kk, o, old x B base hlt ht hi, rfl, ho, g1, g2, g3, g4⟩
        · cases h
      · rename_i hlt
        split at h
        · rename_i cs hb
          split at h
          · rename_i hle
            rw [Option.map_eq_some_iff] at h
            obtain ⟨bs, h1, rfl⟩ := h
            obtain ⟨B0, base0, h3, _, _, _, _, vs, ha, hvs⟩ := hR.blk x _ hb
            rw [hi] at h3
            simp only [Option.some.injEq, Prod.mk.injEq] at h3
            obtain ⟨rfl, rfl⟩ := h3
            have hl := Vs_length hvs
            have hch := chunk_Vss (sz := sz) len (Vs_drop off hvs) (by simp; omega)
            obtain ⟨h5, h6⟩ := frzss_sim ih0 sz _ h1
            rw [chunk_length] at h5
            have hIx : (c.pop H n0 (topN n0 top)).I B := .inr ⟨x, _, base, by omega, hb, hi⟩
            simp only [V, h5]
            by_cases hk : 0 < kk
            · have ho' := ho hk
              subst ho'
              refine ⟨B, base + off, kk, _, rfl, by omega, ?_, hIx, At_take _ (At_drop off ha), h6 _ hch⟩
              intro he
              simp only [Bool.and_eq_true, beq_iff_eq] at he
              have := g3 he.1
              omega
            · have hl0 : len = 0 := by omega
              subst hl0
              have hbs : bs = [] := List.eq_nil_of_length_eq_zero h5
              subst hbs
              exact ⟨B, o, kk, [], rfl, by omega, (fun _ => by omega), hIx, At_nil _ _ _, by simp [Vss]⟩
          · cases h
        · cases h
    case mapr x =>
      split at h
      · rename_i hlt
        simp only [Option.some.injEq] at h
        subst h
        simp only [V] at hv ⊢
        obtain ⟨B, h1, rfl⟩ := hv
        exact ⟨B, old x B 0 hlt.1 hlt.2 h1, rfl⟩
      · cases h
    case ipt cs =>
      simp only [Option.some.injEq] at h
      subst h
      simp only [V] at hv ⊢
      obtain ⟨B, off, vs, rfl, hI, ha, hvs⟩ := hv
      exact ⟨B, off, vs, rfl, .inl hI, ha, Vs_ext (pure_pop c H n0 _) _ _ hvs⟩
    case eptr id cs =>
      simp only [Option.some.injEq] at h
      subst h
      simp only [V] at hv ⊢
      obtain ⟨B, o, vs, hn, e1, rfl, hI, ha, hvs, hc⟩ := hv
      exact ⟨B, o, vs, hn, e1, rfl, .inl hI, ha, Vs_ext (pure_pop c H n0 _) _ _ hvs, hc⟩
    case list sz rows ex =>
      simp only [Option.some.injEq] at h
      subst h
      simp only [V] at hv ⊢
      obtain ⟨B, off, cap, vs, rfl, h1, h2, hI, ha, hvs⟩ := hv
      exact ⟨B, off, cap, vs, rfl, h1, h2, .inl hI, ha, Vss_ext (pure_pop c H n0 _) _ _ _ hvs⟩
    all_goals (simp only [Option.some.injEq] at h; subst h)
    all_goals (simp only [V] at hv ⊢)
    all_goals exact hv

/-- A call that leaves all as it was: what it made is for all time. -/
theorem pop_sim {lo : Nat} {c c' : Cx} {H H' : Heap} (hR : Rel c H) (hR' : Rel c' H') (hT : Tr c H c' H') (hL : Low H.length c H c' H') :
    Rel (c'.pop H' H.length H.length) H ∧ Tr c H (c'.pop H' H.length H.length) H ∧ Low lo c H (c'.pop H' H.length H.length) H := by
  have hlen : ∀ (b : Nat) (blk : ABlk), H[b]? = some (some blk) → b < H.length := by
    intro b blk h
    rcases Nat.lt_or_ge b H.length with h1 | h1
    · exact h1
    · rw [List.getElem?_eq_none h1] at h; cases h
  have hι : ∀ b x, c.ι b = some x → (c'.pop H' H.length H.length).ι b = some x := by
    intro b x h
    have : b < H.length := by
      rcases Nat.lt_or_ge b H.length with h1 | h1
      · exact h1
      · rw [hR.fresh b h1] at h; cases h
    simp only [Cx.pop]
    rw [if_pos this]
    exact hT.ext.ι b x h
  have hE : Ext c (c'.pop H' H.length H.length) := ⟨hι, hT.ext.θ, fun B hB => .inl (hT.ext.I B hB), hT.ext.kept, hT.ext.shape⟩
  have hιback : ∀ b blk, H[b]? = some (some blk) → ∀ x, (c'.pop H' H.length H.length).ι b = some x → c.ι b = some x := by
    intro b blk hb x h
    obtain ⟨B, base, h1, _⟩ := hR.blk b blk hb
    rw [hι b _ h1] at h
    rw [h1, h]
  refine ⟨⟨?_, ?_, ?_, ?_⟩, ⟨hE, hT.size, hT.frame, ?_, ?_, hT.os, hT.tape, hT.output⟩, ⟨?_, ?_, Nat.le_refl _⟩⟩
  · intro b blk hb
    obtain ⟨B, base, h1, h2, h3, h4⟩ := hR.blk b blk hb
    obtain ⟨h5, h6⟩ := hL.low b blk (hlen b blk hb) hb
    refine ⟨B, base, hι b _ h1, ?_, Nat.lt_of_lt_of_le h3 hT.size, h4.ext hE (h6 B base h1)⟩
    rintro (hi | ⟨x, y, base', hx, hy, hxi⟩)
    · obtain ⟨B2, base2, h7, h8, _⟩ := hR'.blk b blk h5
      rw [hT.ext.ι b _ h1] at h7
      simp only [Option.some.injEq, Prod.mk.injEq] at h7
      obtain ⟨rfl, rfl⟩ := h7
      exact h8 hi
    · have := hR'.inj b x blk y B base base' h5 hy (hT.ext.ι b _ h1) hxi
      have := hlen b blk hb
      omega
  · intro b b' blk blk' B base base' h1 h2 h3 h4
    exact hR.inj b b' blk blk' B base base' h1 h2 (hιback b blk h1 _ h3) (hιback b' blk' h2 _ h4)
  · intro b hb
    simp only [Cx.pop]
    rw [if_neg (by omega)]
  · intro B hB
    rcases hB with hB | ⟨b, blk, base, _, h1, h2⟩
    · exact hR'.lt B hB
    · obtain ⟨B', base', h3, _, h4, _⟩ := hR'.blk b blk h1
      rw [h2] at h3
      simp only [Option.some.injEq, Prod.mk.injEq] at h3
      obtain ⟨rfl, rfl⟩ := h3
      exact h4
  · rintro B _ ⟨b, blk, base, h1, h2⟩
    exact ⟨b, blk, base, h1, hιback b blk h1 _ h2⟩
  · rintro B hB (hi | ⟨b, blk, base, _, h1, h2⟩)
    · exact hT.imm B hB hi
    · exact .inr (hT.img B hB ⟨b, blk, base, h1, h2⟩)
  · intro b blk _ hb
    obtain ⟨_, h6⟩ := hL.low b blk (hlen b blk hb) hb
    exact ⟨hb, h6⟩
  · intro b hb h
    simp only [Cx.pop]
    rw [if_pos hb]
    exact hL.dom b hb h

theorem resultA_sim {S : AStat} {c : Cx} {H : Heap} {ρ : List AVal} {tmps : Array Value} (hR : Rel c H) (hρ : Vs c ρ tmps.toList) : ∀ (r : ResultVar) {v : AVal}, resultA S ρ H r = some v →
    ∃ u, (match r with | .tmp t => pure (tmps.getD t undef) | .cell a t => do loadVar t (← asAddr (tmps.getD a undef)) : Sem Value).run S.P c.w = .ok u c.w ∧ V c v u := by
  have hget : ∀ t, V c (ρ.getD t undefA) (tmps.getD t undef) := by
    intro t
    have := Vs_getD hρ t
    simpa [Array.getD_eq_getD_getElem?, List.getD] using this
  intro r v h
  cases r with
  | tmp t =>
    simp only [resultA, Option.some.injEq] at h
    subst h
    exact ⟨_, rfl, hget t⟩
  | cell a t =>
    simp only [resultA] at h
    have hl := h
    unfold loadA at h
    rw [Option.bind_eq_some_iff] at h
    obtain ⟨cs, h1, h2⟩ := h
    obtain ⟨B, o, vs, e, ha, hvs⟩ := atA_sim hR h1 (hget a)
    obtain ⟨u, h3, h4⟩ := run_loadVar (P := S.P) h2 hvs ha
    exact ⟨u, by simp only [e, asAddr, Sem.run_bind, Sem.run_pure, Result.andThen_ok, h3], h4⟩

theorem resultsA_sim {S : AStat} {c : Cx} {H : Heap} {ρ : List AVal} {tmps : Array Value} (hR : Rel c H) (hρ : Vs c ρ tmps.toList) : ∀ (rs : List ResultVar) {vs : List AVal}, resultsA S ρ H rs = some vs →
    ∃ us, (rs.mapM (fun | .tmp t => pure (tmps.getD t undef) | .cell a t => do loadVar t (← asAddr (tmps.getD a undef))) : Sem (List Value)).run S.P c.w = .ok us c.w ∧ Vs c vs us
  | [], vs, h => by
    simp only [resultsA, Option.some.injEq] at h
    subst h
    exact ⟨[], rfl, by simp [Vs]⟩
  | r :: rs, vs, h => by
    simp only [resultsA] at h
    split at h
    · cases h
    · rename_i v hv
      split at h
      · cases h
      · rename_i vs' hvs
        simp only [Option.some.injEq] at h
        subst h
        obtain ⟨u, h1, h2⟩ := resultA_sim hR hρ r hv
        obtain ⟨us, h3, h4⟩ := resultsA_sim hR hρ rs hvs
        refine ⟨u :: us, ?_, by simp only [Vs]; exact ⟨_, _, rfl, h2, h4⟩⟩
        rw [List.mapM_cons]
        simp only [Sem.run_bind, h1, h3, Result.andThen_ok, Sem.run_pure]

theorem results_sim {S : AStat} {c : Cx} {H : Heap} {ρ : List AVal} {tmps : Array Value} (hR : Rel c H) (hρ : Vs c ρ tmps.toList) (fn : Func) {vs : List AVal} (h : resultsA S ρ H fn.results.toList = some vs) :
    ∃ u, (results fn tmps).run S.P c.w = .ok u c.w ∧ V c (tupled vs) u := by
  obtain ⟨us, h1, h2⟩ := resultsA_sim hR hρ _ h
  have hl := Vs_length h2
  refine ⟨if h : us.toArray.size = 1 then us.toArray[0] else .tuple us.toArray, ?_, ?_⟩
  · unfold results
    rw [Array.mapM_eq_mapM_toList]
    simp only [Sem.run_bind, Sem.run_map]
    erw [h1]
    rfl
  · unfold tupled
    split
    · rename_i v
      simp only [Vs] at h2
      obtain ⟨u, _, rfl, h3, rfl⟩ := h2
      simpa using h3
    · rename_i hne
      have : ¬ us.toArray.size = 1 := by
        intro e
        simp only [List.size_toArray] at e
        match vs, hl, hne with
        | [v], _, hne => exact hne v rfl
        | [], hl, _ => simp at hl; omega
        | _ :: _ :: _, hl, _ => simp at hl; omega
      rw [dif_neg this]
      simp only [V]
      exact ⟨us, rfl, h2⟩

theorem callA_ok {S : AStat} (hS : StatOk S) {K : Nat} {rec : ExecF} (hE : ExecOk S K rec) : CallOk S (callA S rec) := by
  intro lo f args H r H' h c vs hR hG hvs
  unfold callA at h
  split at h
  · rename_i hk hhk
    exact hS.hook f hk hhk lo args H r H' h c vs hR hG hvs
  · split at h
    · cases h
    · rename_i fn hf
      split at h
      · cases h
      · rename_i body hb
        refine ⟨⟨fn, hf, by simp [hb]⟩, ?_⟩
        refine calls_of_wp hf hb ?_
        have hlen := Vs_length hvs
        have hargs : Vs c (args ++ List.replicate (fn.ntmps - args.length) undefA) (vs.toArray ++ Array.replicate (fn.ntmps - vs.toArray.size) undef).toList := by
          have : (vs.toArray ++ Array.replicate (fn.ntmps - vs.toArray.size) undef).toList = vs ++ List.replicate (fn.ntmps - args.length) undef := by
            simp [hlen]
          rw [this]
          exact Vs_append hvs (Vs_replicate (undef_V c) _)
        split at h
        · cases h
        · cases h
        · rename_i x ρ H1 hne hrec
          have hwp := (hE _ _ _ _ _ _ _ hrec c { tmps := vs.toArray ++ Array.replicate (fn.ntmps - vs.toArray.size) undef, defers := [] } hR hG hargs rfl).1
          refine wp_mono hwp ?_
          rintro e a' w' ⟨he, hd, c', rfl, h1, h2, h3, h4⟩
          split at h
          · cases h
          · rename_i rs hrs
            obtain ⟨u, h5, h6⟩ := results_sim h1 h4 fn hrs
            have fin : ∃ c'', c''.w = c'.w ∧ Rel c'' H' ∧ Tr c H c'' H' ∧ Low lo c H c'' H' ∧ V c'' r u := by
              unfold finish at h
              split at h
              · rename_i hp
                simp only [Option.some.injEq, Prod.mk.injEq] at h
                obtain ⟨rfl, rfl⟩ := h
                rw [hp] at h3
                exact ⟨c', rfl, h1, h2, h3, h6⟩
              · rename_i hp
                rw [Option.map_eq_some_iff] at h
                obtain ⟨v', h7, h8⟩ := h
                simp only [Prod.mk.injEq] at h8
                obtain ⟨rfl, rfl⟩ := h8
                rw [hp] at h3
                obtain ⟨g1, g2, g3⟩ := pop_sim (lo := lo) hR h1 h2 h3
                exact ⟨c'.pop H1 H.length H.length, rfl, g1, g2, g3, frz_sim h1 H.length 64 true _ h7 u h6⟩
              · rename_i hp
                simp only [Option.some.injEq, Prod.mk.injEq] at h
                obtain ⟨rfl, rfl⟩ := h
                rw [hp] at h3
                exact ⟨c', rfl, h1, h2, h3.mono (by simp only [Pol.lo]; omega), h6⟩
            obtain ⟨c'', hw, g1, g2, g3, g4⟩ := fin
            subst he
            cases x with
            | normal => exact ⟨hd, u, h5, u, c'', rfl, hw, g1, g2, g3, g4⟩
            | ret => exact ⟨hd, u, h5, u, c'', rfl, hw, g1, g2, g3, g4⟩
            | exit id => exact (hne _ rfl).elim

theorem rounds_mono {P : Program} {b : Code} {Q Q' : Exit → Act → World → Prop} (hq : ∀ e a w, Q e a w → Q' e a w) : ∀ (k : Nat) {a : Act} {w : World}, Code.rounds P b Q k a w → Code.rounds P b Q' k a w
  | 0, _, _, h => h
  | k + 1, a, w, h => by
    refine wp_mono h ?_
    intro e a' w' he
    cases e with
    | normal => exact rounds_mono hq k he
    | _ => exact hq _ _ _ he

theorem stepA_ok {S : AStat} (hS : StatOk S) {K : Nat} {rec : ExecF} (hL : RecLow rec) (hE : ExecOk S K rec) : ExecOk S (K + 1) (stepA S rec) := by
  intro lo code ρ H x ρ' H' h c a hR hG hρ hd
  have here : Post lo c H .normal ρ H .normal a c.w := ⟨rfl, hd, c, rfl, hR, Tr.refl _ _, Low.refl _ _ _, hρ⟩
  unfold stepA at h
  split at h
  · simp only [Option.some.injEq, Prod.mk.injEq] at h
    obtain ⟨rfl, rfl, rfl⟩ := h
    exact ⟨wp_skip here, (fun b e => by cases e)⟩
  · simp only [Option.some.injEq, Prod.mk.injEq] at h
    obtain ⟨rfl, rfl, rfl⟩ := h
    exact ⟨wp_label here, (fun b e => by cases e)⟩
  · simp only [Option.some.injEq, Prod.mk.injEq] at h
    obtain ⟨rfl, rfl, rfl⟩ := h
    exact ⟨wp_ret ⟨rfl, hd, c, rfl, hR, Tr.refl _ _, Low.refl _ _ _, hρ⟩, (fun b e => by cases e)⟩
  · rename_i id
    simp only [Option.some.injEq, Prod.mk.injEq] at h
    obtain ⟨rfl, rfl, rfl⟩ := h
    exact ⟨wp_exit ⟨rfl, hd, c, rfl, hR, Tr.refl _ _, Low.refl _ _ _, hρ⟩, (fun b e => by cases e)⟩
  · rename_i p q
    refine ⟨?_, (fun b e => by cases e)⟩
    split at h
    · rename_i ρ1 H1 h1
      refine wp_seq (wp_mono (hE _ _ _ _ _ _ _ h1 c a hR hG hρ hd).1 ?_)
      rintro e a1 w1 ⟨rfl, hd1, c1, rfl, g1, g2, g3, g4⟩
      exact wp_mono (hE _ _ _ _ _ _ _ h c1 a1 g1 (hG.ext g2.ext) g4 hd1).1 fun e a' w' hp => hp.trans g2 g3
    · rename_i hne
      refine wp_seq (wp_mono (hE _ _ _ _ _ _ _ h c a hR hG hρ hd).1 ?_)
      rintro e a1 w1 hp
      obtain ⟨he, hp2⟩ := hp
      cases x with
      | normal => exact (hne _ _ h).elim
      | exit id => subst he; exact ⟨rfl, hp2⟩
      | ret => subst he; exact ⟨rfl, hp2⟩
  · rename_i cnd p q
    refine ⟨?_, (fun b e => by cases e)⟩
    have hc := evalA_V hG hρ cnd
    split at h
    · rename_i e
      rw [e] at hc
      simp only [V] at hc
      exact wp_cond_true hc (hE _ _ _ _ _ _ _ h c a hR hG hρ hd).1
    · rename_i e
      rw [e] at hc
      simp only [V] at hc
      exact wp_cond_false hc (hE _ _ _ _ _ _ _ h c a hR hG hρ hd).1
    · cases h
  · rename_i id p
    refine ⟨?_, (fun b e => by cases e)⟩
    split at h
    · rename_i i ρ1 H1 h1
      refine wp_block (wp_mono (hE _ _ _ _ _ _ _ h1 c a hR hG hρ hd).1 ?_)
      rintro e a1 w1 ⟨rfl, hp⟩
      simp only [AExit.toExit, Exit.inBlock]
      split at h
      · rename_i hi
        simp only [Option.some.injEq, Prod.mk.injEq] at h
        obtain ⟨rfl, rfl, rfl⟩ := h
        rw [if_pos hi]
        exact ⟨rfl, hp⟩
      · rename_i hi
        simp only [Option.some.injEq, Prod.mk.injEq] at h
        obtain ⟨rfl, rfl, rfl⟩ := h
        rw [if_neg hi]
        exact ⟨rfl, hp⟩
    · rename_i hne
      refine wp_block (wp_mono (hE _ _ _ _ _ _ _ h c a hR hG hρ hd).1 ?_)
      rintro e a1 w1 ⟨rfl, hp⟩
      cases x with
      | normal => exact ⟨rfl, hp⟩
      | exit id => exact (hne _ _ _ h).elim
      | ret => exact ⟨rfl, hp⟩
  · rename_i p
    have main : Code.rounds S.P p (Post lo c H x ρ' H') (K + 1) a c.w := by
      split at h
      · rename_i ρ1 H1 h1
        refine wp_mono (hE _ _ _ _ _ _ _ h1 c a hR hG hρ hd).1 ?_
        rintro e a1 w1 ⟨rfl, hd1, c1, rfl, g1, g2, g3, g4⟩
        exact rounds_mono (fun e a' w' hp => hp.trans g2 g3) K ((hE _ _ _ _ _ _ _ h c1 a1 g1 (hG.ext g2.ext) g4 hd1).2 p rfl)
      · rename_i hne
        refine wp_mono (hE _ _ _ _ _ _ _ h c a hR hG hρ hd).1 ?_
        rintro e a1 w1 ⟨rfl, hp⟩
        cases x with
        | normal => exact (hne _ _ h).elim
        | exit id => exact ⟨rfl, hp⟩
        | ret => exact ⟨rfl, hp⟩
    refine ⟨wp_loop_rounds (K + 1) main, fun b e => ?_⟩
    cases e
    exact main
  · rename_i id ops draw
    refine ⟨?_, (fun b e => by cases e)⟩
    split at h
    · rename_i hd1
      subst hd1
      rw [Option.map_eq_some_iff] at h
      obtain ⟨⟨ρ1, H1⟩, h1, h2⟩ := h
      simp only [Prod.mk.injEq] at h2
      obtain ⟨rfl, rfl, rfl⟩ := h2
      exact drawA_sim hS (callA_ok hS hE) (callA_still S hL) h1 hR hG hρ hd
    · rename_i hd0
      rw [Option.map_eq_some_iff] at h
      obtain ⟨⟨ρ1, H1⟩, h1, h2⟩ := h
      simp only [Prod.mk.injEq] at h2
      obtain ⟨rfl, rfl, rfl⟩ := h2
      have hdf : draw = false := by simpa using hd0
      subst hdf
      exact wp_region_list (opsA_sim hS (callA_ok hS hE) _ h1 hR hG hρ hd fun e a' w' hp => hp)
  · cases h

theorem execA_ok {S : AStat} (hS : StatOk S) : ∀ n, ExecOk S n (execA S n)
  | 0 => fun lo code ρ H x ρ' H' h => by cases h
  | n + 1 => stepA_ok hS (execA_low (fun f hk h lo args H r H' e => hS.low f hk h lo args H r H' e) n) (execA_ok hS n)

theorem runA_ok {S : AStat} (hS : StatOk S) (n : Nat) : CallOk S (runA S n) := callA_ok hS (execA_ok hS n)

end Go.Am

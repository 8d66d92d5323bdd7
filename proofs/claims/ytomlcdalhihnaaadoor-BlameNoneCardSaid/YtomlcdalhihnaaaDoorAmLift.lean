/- A call that was run where nothing is one's own serves wherever its arguments lead to nothing of one's own: what was there stays. Generic: over any program. -/
import Derived.Test.YtomlcdalhihnaaaDoorAmTop
import Derived.Test.YtomlcdalhihnaaaDoorAmWp
namespace Go.Am
open Go.RowKit

mutual
/-- Does a value lead to nothing that may turn? -/
def AVal.bare : AVal → Bool
  | .agg cs => baresA cs
  | .tup cs => baresA cs
  | .iface _ v => v.bare
  | .fn _ x y => baresA x && baresA y
  | .ptr _ _ => false
  | .sl _ _ _ _ _ _ => false
  | .mapr _ => false
  | _ => true
def baresA : List AVal → Bool
  | [] => true
  | a :: as => a.bare && baresA as
end

mutual
theorem bare_V {c c' : Cx} (h : Ext c.pure c'.pure) : ∀ (a : AVal) (v : Value), a.bare = true → V c a v → V c' a v
  | .bool b, v, _, hv => by simpa [V] using hv
  | .int k n, v, _, hv => by simpa [V] using hv
  | .str s, v, _, hv => by simpa [V] using hv
  | .agg cs, v, hb, hv => by
    simp only [V] at hv ⊢
    obtain ⟨vs, e, h1⟩ := hv
    exact ⟨vs, e, bares_V h cs vs hb h1⟩
  | .nilp, v, _, hv => by simpa [V] using hv
  | .ptr _ _, _, hb, _ => by simp [AVal.bare] at hb
  | .ipt cs, v, _, hv => by
    simp only [V] at hv ⊢
    obtain ⟨B, off, vs, e, hI, ha, hvs⟩ := hv
    exact ⟨B, off, vs, e, h.I _ hI, At.ext h hI ha, Vs_ext h cs vs hvs⟩
  | .eptr id cs, v, _, hv => by
    simp only [V] at hv ⊢
    obtain ⟨B, o, vs, hn, e1, e, hI, ha, hvs, ca, ta, hc⟩ := hv
    have ht : c'.θ = c.θ := h.θ
    rw [ht]
    exact ⟨B, o, vs, hn, e1, e, h.I _ hI, At.ext h hI ha, Vs_ext h cs vs hvs, ca, ta, by rw [show c'.w.heap[B]? = c.w.heap[B]? from h.kept _ hI]; exact hc⟩
  | .hnd b off, v, _, hv => by simpa [V] using hv
  | .nils, v, _, hv => by simpa [V] using hv
  | .list sz rows ex, v, _, hv => by
    simp only [V] at hv ⊢
    obtain ⟨B, off, cap, vs, e, hc, hx, hI, ha, hvs⟩ := hv
    exact ⟨B, off, cap, vs, e, hc, hx, h.I _ hI, At.ext h hI ha, Vss_ext h sz rows vs hvs⟩
  | .sl _ _ _ _ _ _, _, hb, _ => by simp [AVal.bare] at hb
  | .nilm, v, _, hv => by simpa [V] using hv
  | .mapr _, _, hb, _ => by simp [AVal.bare] at hb
  | .fn f x y, v, hb, hv => by
    simp only [AVal.bare, Bool.and_eq_true] at hb
    simp only [V] at hv ⊢
    obtain ⟨vs, us, e, h1, h2⟩ := hv
    exact ⟨vs, us, e, bares_V h x vs hb.1 h1, bares_V h y us hb.2 h2⟩
  | .nilf, v, _, hv => by simpa [V] using hv
  | .iface t a, v, hb, hv => by
    simp only [V] at hv ⊢
    obtain ⟨u, e, hu⟩ := hv
    exact ⟨u, e, bare_V h a u hb hu⟩
  | .nili, v, _, hv => by simpa [V] using hv
  | .tup cs, v, hb, hv => by
    simp only [V] at hv ⊢
    obtain ⟨vs, e, h1⟩ := hv
    exact ⟨vs, e, bares_V h cs vs hb h1⟩
  | .junk, v, _, _ => by simp [V]
theorem bares_V {c c' : Cx} (h : Ext c.pure c'.pure) : ∀ (as : List AVal) (vs : List Value), baresA as = true → Vs c as vs → Vs c' as vs
  | [], vs, _, hv => by simpa [Vs] using hv
  | a :: as, vs, hb, hv => by
    simp only [baresA, Bool.and_eq_true] at hb
    simp only [Vs] at hv ⊢
    obtain ⟨v, us, e, h1, h2⟩ := hv
    exact ⟨v, us, e, bare_V h a v hb.1 h1, bares_V h as us hb.2 h2⟩
end

theorem pure_rel {c : Cx} {H : Heap} (hR : Rel c H) : Rel c.pure [] where
  blk := fun b blk h => by simp at h
  inj := fun b b' blk blk' B base base' h => by simp at h
  fresh := fun _ _ => rfl
  lt := hR.lt

theorem pure_pure (c : Cx) : Ext c.pure c.pure.pure := ⟨(fun _ _ h => by cases h), rfl, fun _ h => h, fun _ _ => rfl, fun _ _ _ h => h⟩

theorem glob_pure {S : AStat} {c : Cx} (hG : GlobOk S c) : GlobOk S c.pure := fun g cs hg => bare_V (pure_pure c) _ _ rfl (hG g cs hg)

/-- Back from a call at which nothing was one's own. -/
theorem pure_back {c : Cx} {H : Heap} (hR : Rel c H) {c1 : Cx} {H1 : Heap} (hT : Tr c.pure [] c1 H1) (hR1 : Rel c1 H1) (lo : Nat) {r : AVal} {v : Value} (hb : r.bare = true) (hv : V c1 r v) :
    ∃ c', c'.w = c1.w ∧ Rel c' H ∧ Tr c H c' H ∧ Low lo c H c' H ∧ V c' r v := by
  have hframe : ∀ B, B < c.w.heap.size → c1.w.heap[B]? = c.w.heap[B]? := fun B hB => hT.frame B hB (fun ⟨b, blk, base, h, _⟩ => by simp at h)
  let c' : Cx := { c with w := c1.w, I := fun B => c.I B ∨ (c.w.heap.size ≤ B ∧ c1.I B) }
  have hext : Ext c c' := ⟨fun _ _ h => h, rfl, fun _ h => .inl h, fun B hB => hframe B (hR.lt B hB), fun B t n h => by
    have hlt : B < c.w.heap.size := by
      rcases Nat.lt_or_ge B c.w.heap.size with h1 | h1
      · exact h1
      · simp [World.shape?, Array.getElem?_eq_none h1] at h
    show c1.w.shape? B = _
    rw [shape_of_block (w := c.w) (hframe B hlt)]
    exact h⟩
  refine ⟨c', rfl, ⟨?_, hR.inj, hR.fresh, ?_⟩, ⟨hext, hT.size, fun B hB _ => hframe B hB, fun B _ h => h, ?_, hT.os, hT.tape, hT.output⟩, ⟨?_, fun _ _ h => h, Nat.le_refl _⟩, ?_⟩
  · intro b blk hb
    obtain ⟨B, base, h1, h2, h3, h4⟩ := hR.blk b blk hb
    refine ⟨B, base, h1, ?_, Nat.lt_of_lt_of_le h3 hT.size, h4.ext hext (hframe B h3)⟩
    rintro (h | ⟨h, _⟩)
    · exact h2 h
    · omega
  · rintro B (h | ⟨_, h⟩)
    · exact Nat.lt_of_lt_of_le (hR.lt B h) hT.size
    · exact hR1.lt B h
  · rintro B hB (h | ⟨h, _⟩)
    · exact .inl h
    · omega
  · intro b blk _ hH
    refine ⟨hH, fun B base hi => ?_⟩
    obtain ⟨B', base', h1, _, h2, _⟩ := hR.blk b blk hH
    rw [hi] at h1
    simp only [Option.some.injEq, Prod.mk.injEq] at h1
    obtain ⟨rfl, rfl⟩ := h1
    exact hframe _ h2
  · refine bare_V (c := c1) (c' := c') ⟨(fun _ _ h => by cases h), hT.ext.θ.symm, ?_, fun _ _ => rfl, fun _ _ _ h => h⟩ r v hb hv
    intro B hB
    rcases Nat.lt_or_ge B c.w.heap.size with h | h
    · rcases hT.imm B h hB with h1 | ⟨b, blk, base, h1, _⟩
      · exact .inl h1
      · simp at h1
    · exact .inr ⟨h, hB⟩

/-- A contract that was shown where nothing is one's own serves anywhere. -/
theorem lift_bare {S : AStat} {f : FuncId} {av : List AVal} {r : AVal} (ha : baresA av = true) (hr : r.bare = true)
    (h : ∀ c vs, Rel c [] → GlobOk S c → Vs c av vs → ∃ H1, Calls S.P f vs.toArray c.w (CallPost 0 c [] r H1)) :
    ∀ lo c H vs, Rel c H → GlobOk S c → Vs c av vs → Calls S.P f vs.toArray c.w (CallPost lo c H r H) := by
  intro lo c H vs hR hG hv
  obtain ⟨H1, h1⟩ := h c.pure vs (pure_rel hR) (glob_pure hG) (bares_V (pure_pure c) _ _ ha hv)
  refine h1.mono fun e w' hp => ?_
  obtain ⟨v, c1, rfl, rfl, g1, g2, _, g3⟩ := hp
  obtain ⟨c', e1, k1, k2, k3, k4⟩ := pure_back hR g2 g1 lo hr g3
  exact ⟨v, c', rfl, e1, k1, k2, k3, k4⟩

/-- A closed run, as a contract. -/
theorem lift_run {S : AStat} (hS : StatOk S) {f : FuncId} {av : List AVal} {r : AVal} (ha : baresA av = true) (hr : r.bare = true) {n : Nat} {H1 : Heap} (h : runA S n 0 f av [] = some (r, H1)) :
    ∀ lo c H vs, Rel c H → GlobOk S c → Vs c av vs → (∃ fn, S.P.funcs[f]? = some fn ∧ fn.body.isSome = true) ∧ Calls S.P f vs.toArray c.w (CallPost lo c H r H) := by
  intro lo c H vs hR hG hv
  refine ⟨(runA_ok hS n 0 f av [] _ _ h c.pure vs (pure_rel hR) (glob_pure hG) (bares_V (pure_pure c) _ _ ha hv)).1, ?_⟩
  exact lift_bare ha hr (fun c vs h1 h2 h3 => ⟨H1, (runA_ok hS n 0 f av [] _ _ h c vs h1 h2 h3).2⟩) lo c H vs hR hG hv

end Go.Am

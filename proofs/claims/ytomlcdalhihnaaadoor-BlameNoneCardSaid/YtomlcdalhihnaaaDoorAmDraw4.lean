/- That a region whose order is open keeps to the idealised one, in whatever order: new blocks, effects, the whole. Generic: over any program. -/
import Derived.Test.YtomlcdalhihnaaaDoorAmDraw3
namespace Go.Am
set_option linter.unusedVariables false
open Go.RowKit
variable {S : AStat} {call : CallF} {lo n0 : Nat} {ops : Array Oper} {B : List Nat} {reads : List (Nat × Nat)} {touches : List (Nat × Option (List Nat))} {ρs : Nat → List AVal} {Hs : Nat → Heap}
variable {c0 c : Cx} {H0 : Heap} {D : Nat → Bool} {tE : Nat} {a : Act}

/-- A new block. -/
theorem Inv.newStep (T : Tra S call lo n0 ops B reads touches ρs Hs) (I : Inv S lo n0 ops ρs Hs c0 H0 D tE c a) {i : Nat} {o : Oper} (hr : Ready ops D i o) (hn : newW S ops ρs i = true) {blk : ABlk} {mk : Nat → AVal}
    (hd : (Hs i)[n0 + i]? = some none) (hH : Hs (i + 1) = (Hs i).set (n0 + i) (some blk)) (hρ : ρs (i + 1) = putA (ρs i) o.dst (mk (n0 + i))) {obj : Obj} {u : Value}
    (hm : ∀ b, Ext c (c.put b c.w.heap.size 0 (c.w.alloc obj)) → BlkRel (c.put b c.w.heap.size 0 (c.w.alloc obj)) c.w.heap.size 0 blk ∧ V (c.put b c.w.heap.size 0 (c.w.alloc obj)) (mk b) u) :
    Inv S lo n0 ops ρs Hs c0 H0 (fun x => D x || x == i) tE (c.put (n0 + i) c.w.heap.size 0 (c.w.alloc obj)) (a.put o.dst u) := by
  have hi : i < ops.size := (Array.getElem?_eq_some_iff.1 hr.op).1
  obtain ⟨hnew, _⟩ := newW_new hn
  have he := new_not_eff hnew
  have hι := I.undone i hn hr.not
  have hw := T.wide i hi hnew
  have hlenE : n0 + i < (Hs tE).length := Nat.lt_of_lt_of_le hw (T.mono _ (Nat.zero_le _) I.tEn)
  have hlive : (HD S ops ρs Hs n0 (fun x => D x || x == i) tE)[n0 + i]? = some (some blk) := by
    refine HD_live.2 ⟨hlenE, fun _ => by simp, ?_⟩
    have hτ : tm S ops ρs n0 tE (n0 + i) = max tE (i + 1) := by
      unfold tm
      rw [if_pos (isN_of hn)]
      congr 2
      omega
    rw [hτ]
    have hb1 : n0 + i < (Hs (i + 1)).length := by
      rw [hH, List.length_set]
      exact (List.getElem?_eq_some_iff.1 hd).1
    have h1 : (Hs (i + 1))[n0 + i]? = some (some blk) := by
      rw [hH, List.getElem?_set, if_pos rfl, if_pos (List.getElem?_eq_some_iff.1 hd).1]
    have htE := I.tEn
    have hch := keep_chain' (Hs := Hs) (b := n0 + i) (p := i + 1) (q := max tE (i + 1)) (by omega) hb1 (by
      intro j hj1 hj2
      have hjn : j < ops.size := by omega
      by_cases hje : effAt ops j = true
      · exact T.keep_hidden hjn hje hi hnew (I.not_behind T hr (I.effs T (by omega) hje))
      · simp only [Bool.not_eq_true] at hje
        exact T.keep_calm hjn hje fun _ => by omega)
    rw [hch.1]
    exact h1
  have hadd := I.rel.add (H' := HD S ops ρs Hs n0 (fun x => D x || x == i) tE) (n0 + i) obj blk hι (by rw [HD_length]; exact hlenE) (by rw [HD_length, HD_length]; exact Nat.le_refl _) (by
    intro x y hxy
    by_cases hx : x = n0 + i
    · subst hx
      rw [hlive] at hxy
      simp only [Option.some.injEq] at hxy
      exact .inl ⟨rfl, hxy.symm⟩
    · refine .inr ⟨hx, ?_⟩
      obtain ⟨g1, g2, g3⟩ := HD_live.1 hxy
      refine HD_live.2 ⟨g1, fun hN => ?_, g3⟩
      have := g2 hN
      obtain ⟨h5, _⟩ := isN_spec hN
      simp only [Bool.or_eq_true, beq_iff_eq] at this
      rcases this with h | h
      · exact h
      · omega) (fun hE => (hm _ hE).1)
  refine ⟨I.tEn, ?_, ?_, I.slots' T hr hadd.2.ext (hm _ hadd.2.ext).2 hρ, by rw [put_size]; exact I.size, hadd.1, I.tr.trans hadd.2, ?_, ?_, by rw [put_defers]; exact I.defers, I.down' hr, I.dlt' hr, I.glob.ext hadd.2.ext, I.base⟩
  · intro j hj hje
    simp only [Bool.or_eq_true, beq_iff_eq] at hj
    rcases hj with hj | hj
    · exact I.eff j hj hje
    · subst hj; rw [he] at hje; cases hje
  · rcases I.last with h | ⟨p, h1, h2, h3⟩
    · exact .inl h
    · exact .inr ⟨p, h1, by simp [h2], h3⟩
  · -- the new number may be known to nobody ahead of the region
    refine ⟨?_, ?_, Nat.le_trans I.low.len (by rw [HD_length, HD_length]; exact Nat.le_refl _)⟩
    · intro b blk' hb hH0
      obtain ⟨h1, h2⟩ := I.low.low b blk' hb hH0
      obtain ⟨B', base', h3, _, h4, _⟩ := I.rel.blk b blk' h1
      refine ⟨?_, fun B base hi' => ?_⟩
      · obtain ⟨g1, g2, g3⟩ := HD_live.1 h1
        exact HD_live.2 ⟨g1, fun hN => by simp [g2 hN], g3⟩
      · have h5 := h2 B base hi'
        have h6 := I.tr.ext.ι b _ hi'
        rw [h3] at h6
        simp only [Option.some.injEq, Prod.mk.injEq] at h6
        obtain ⟨rfl, rfl⟩ := h6
        rw [← h5]
        exact Below.heap_alloc _ _ _ h4
    · intro b hb h
      have := I.base
      simp only [Cx.put]
      rw [if_neg (by omega)]
      exact I.low.dom b hb h
  · intro m hm' hD
    simp only [Bool.or_eq_false_iff, beq_eq_false_iff_ne] at hD
    simp only [Cx.put]
    rw [if_neg (by omega)]
    exact I.undone m hm' hD.1

/-- Ahead of an effect that is ready memory stands as it stood. -/
theorem Inv.still (T : Tra S call lo n0 ops B reads touches ρs Hs) (_I : Inv S lo n0 ops ρs Hs c0 H0 D tE c a) {q : Nat} (hq : q ≤ ops.size) (hle : tE ≤ q) (hno : ∀ k, k < q → effAt ops k = true → k < tE) :
    (Hs q).length = (Hs tE).length ∧ ∀ b t, tE ≤ t → t ≤ q → b < (Hs tE).length → (isN S ops ρs n0 b = true → b - n0 < t) → (Hs q)[b]? = (Hs t)[b]? := by
  have hcalm : ∀ j, tE ≤ j → j < q → effAt ops j = false := by
    intro j h1 h2
    cases h : effAt ops j with
    | false => rfl
    | true => have := hno j h2 h; omega
  refine ⟨?_, ?_⟩
  · have := T.calm_len (q - tE) tE (by omega) fun j h1 h2 => hcalm j h1 (by omega)
    rwa [show tE + (q - tE) = q by omega] at this
  · intro b t ht1 ht2 hb hN
    have hbt : b < (Hs t).length := Nat.lt_of_lt_of_le hb (T.mono _ ht1 (by omega))
    refine (keep_chain' (Hs := Hs) (b := b) ht2 hbt fun j h1 h2 => T.keep_calm (by omega) (hcalm j (by omega) h2) fun hnw hbj => ?_).1
    have hNb : isN S ops ρs n0 b = true := by rw [hbj]; exact isN_of hnw
    have := hN hNb
    omega

/-- An effect that is ready but not wanted. -/
theorem Inv.skipEff (T : Tra S call lo n0 ops B reads touches ρs Hs) (I : Inv S lo n0 ops ρs Hs c0 H0 D tE c a) {i : Nat} {o : Oper} (hr : Ready ops D i o) (he : effAt ops i = true) (hH : Hs (i + 1) = Hs i) {v : AVal} {u : Value} (hv : V c v u)
    (hρ : ρs (i + 1) = putA (ρs i) o.dst v) (hlo : lo ≤ n0) : Inv S lo n0 ops ρs Hs c0 H0 (fun x => D x || x == i) (i + 1) c (a.put o.dst u) := by
  have hi : i < ops.size := (Array.getElem?_eq_some_iff.1 hr.op).1
  obtain ⟨hle, hno⟩ := I.next T hr he
  obtain ⟨hlen, hst⟩ := I.still T (by omega) hle hno
  have hni : newW S ops ρs i = false := by
    cases h : newW S ops ρs i with
    | false => rfl
    | true => rw [new_not_eff (newW_new h).1] at he; cases he
  have hD : ∀ b, isN S ops ρs n0 b = true → ((D (b - n0) || (b - n0) == i) = true ↔ D (b - n0) = true) := by
    intro b hN
    obtain ⟨_, h2⟩ := isN_spec hN
    simp only [Bool.or_eq_true, beq_iff_eq]
    exact ⟨fun h => h.resolve_right fun e => (by rw [e, hni] at h2; cases h2), .inl⟩
  have same : ∀ b, b < (Hs tE).length → (isN S ops ρs n0 b = true → D (b - n0) = true) → (Hs (tm S ops ρs n0 (i + 1) b))[b]? = (Hs (tm S ops ρs n0 tE b))[b]? := by
    intro b hb _
    unfold tm
    split
    · rename_i hN
      rcases Nat.lt_trichotomy (b - n0) i with h | h | h
      · rw [show max (i + 1) (b - n0 + 1) = i + 1 by omega, hH]
        exact hst b _ (by omega) (by omega) hb (fun _ => by omega)
      · obtain ⟨_, h2⟩ := isN_spec hN
        rw [h, hni] at h2
        cases h2
      · rw [show max (i + 1) (b - n0 + 1) = b - n0 + 1 by omega, show max tE (b - n0 + 1) = b - n0 + 1 by omega]
    · rename_i hN
      rw [hH]
      exact hst b tE (Nat.le_refl _) hle hb (fun h => absurd h hN)
  have liv : ∀ (b : Nat) (blk : ABlk), (HD S ops ρs Hs n0 (fun x => D x || x == i) (i + 1))[b]? = some (some blk) ↔ (HD S ops ρs Hs n0 D tE)[b]? = some (some blk) := by
    intro b blk
    rw [HD_live, HD_live]
    have hl2 : (Hs (i + 1)).length = (Hs tE).length := by rw [hH, hlen]
    rw [hl2]
    constructor
    · rintro ⟨h1, h2, h3⟩
      have h2' : isN S ops ρs n0 b = true → D (b - n0) = true := fun hN => (hD b hN).1 (h2 hN)
      exact ⟨h1, h2', by rw [← same b h1 h2']; exact h3⟩
    · rintro ⟨h1, h2, h3⟩
      exact ⟨h1, fun hN => (hD b hN).2 (h2 hN), by rw [same b h1 h2]; exact h3⟩
  have hl3 : (HD S ops ρs Hs n0 D tE).length = (HD S ops ρs Hs n0 (fun x => D x || x == i) (i + 1)).length := by rw [HD_length, HD_length, hH, hlen]
  refine ⟨by omega, ?_, .inr ⟨i, rfl, by simp, he⟩, I.slots' T hr (Ext.refl c) hv hρ, by rw [put_size]; exact I.size, I.rel.sub (fun b blk h => (liv b blk).1 h) (by omega),
    I.tr.trans (Tr.sub fun b blk h => (liv b blk).1 h), ?_, ?_, by rw [put_defers]; exact I.defers, I.down' hr, I.dlt' hr, I.glob, I.base⟩
  · intro j hj hje
    simp only [Bool.or_eq_true, beq_iff_eq] at hj
    rcases hj with hj | hj
    · have := I.eff j hj hje
      omega
    · omega
  · exact ⟨fun b blk hb h => ⟨(liv b blk).2 (I.low.low b blk hb h).1, (I.low.low b blk hb h).2⟩, I.low.dom, by have := I.low.len; omega⟩
  · intro m hm hDm
    simp only [Bool.or_eq_false_iff] at hDm
    exact I.undone m hm hDm.1

/-- An effect. -/
theorem Inv.effStep (T : Tra S call lo n0 ops B reads touches ρs Hs) (I : Inv S lo n0 ops ρs Hs c0 H0 D tE c a) {i : Nat} {o : Oper} (hr : Ready ops D i o) (he : effAt ops i = true) (hlo : lo ≤ n0) :
    Rel c (hide (Hs i) (hidden ops B n0 i)) ∧ ∀ (v : AVal) (u : Value) (H1 : Heap) (c' : Cx), Hs (i + 1) = unhide (Hs i) H1 (hidden ops B n0 i) → ρs (i + 1) = putA (ρs i) o.dst v →
      Rel c' H1 → Tr c (hide (Hs i) (hidden ops B n0 i)) c' H1 → Low lo c (hide (Hs i) (hidden ops B n0 i)) c' H1 → V c' v u →
      Inv S lo n0 ops ρs Hs c0 H0 (fun x => D x || x == i) (i + 1) c' (a.put o.dst u) := by
  have hi : i < ops.size := (Array.getElem?_eq_some_iff.1 hr.op).1
  obtain ⟨hle, hno⟩ := I.next T hr he
  obtain ⟨hlen, hst⟩ := I.still T (by omega) hle hno
  have hni : newW S ops ρs i = false := by
    cases h : newW S ops ρs i with
    | false => rfl
    | true => rw [new_not_eff (newW_new h).1] at he; cases he
  -- what the effect sees is there
  have sub : ∀ (b : Nat) (blk : ABlk), (hide (Hs i) (hidden ops B n0 i))[b]? = some (some blk) → b ∉ hidden ops B n0 i ∧ (Hs i)[b]? = some (some blk) ∧ (HD S ops ρs Hs n0 D tE)[b]? = some (some blk) := by
    intro b blk h
    rw [hide_get] at h
    split at h
    · cases h
    · rename_i hnh
      have hbl : b < (Hs i).length := (List.getElem?_eq_some_iff.1 h).1
      have hnh' : b ∉ hidden ops B n0 i := fun e => hnh ⟨e, hbl⟩
      refine ⟨hnh', h, ?_⟩
      have hbE : b < (Hs tE).length := by omega
      have hND : isN S ops ρs n0 b = true → D (b - n0) = true ∧ b - n0 < i := by
        intro hN
        obtain ⟨h1, h2⟩ := isN_spec hN
        obtain ⟨h3, h4⟩ := newW_new h2
        have hbit : (B.getD i 0).testBit (b - n0) = true := by
          cases hb : (B.getD i 0).testBit (b - n0) with
          | true => rfl
          | false => exact absurd (mem_hidden.2 ⟨b - n0, h4, h3, hb, by omega⟩) hnh'
        exact ⟨hr.bit T.bits T.lt I.down hbit, T.lt _ _ hbit⟩
      refine HD_live.2 ⟨hbE, fun hN => (hND hN).1, ?_⟩
      rw [← hst b (tm S ops ρs n0 tE b) (by unfold tm; split <;> omega) (by
        unfold tm
        split
        · rename_i hN; have := (hND hN).2; omega
        · exact hle) hbE (by intro hN; unfold tm; rw [if_pos hN]; omega)]
      exact h
  have hlen2 : (hide (Hs i) (hidden ops B n0 i)).length = (HD S ops ρs Hs n0 D tE).length := by rw [hide_length, HD_length, hlen]
  refine ⟨I.rel.sub (fun b blk h => (sub b blk h).2.2) (by omega), ?_⟩
  intro v u H1 c' hH hρ hR' hT' hL' hv
  -- each live block behind the effect is one of the effect's, or one out of its sight
  have liv : ∀ (b : Nat) (blk : ABlk), (HD S ops ρs Hs n0 (fun x => D x || x == i) (i + 1))[b]? = some (some blk) →
      (b ∉ hidden ops B n0 i ∧ H1[b]? = some (some blk)) ∨ (b ∈ hidden ops B n0 i ∧ (HD S ops ρs Hs n0 D tE)[b]? = some (some blk)) := by
    intro b blk h
    obtain ⟨h1, h2, h3⟩ := HD_live.1 h
    have hl1 : (Hs (i + 1)).length = H1.length := by rw [hH, unhide_length]
    have hND : isN S ops ρs n0 b = true → D (b - n0) = true ∧ b - n0 ≠ i := by
      intro hN
      obtain ⟨_, h5⟩ := isN_spec hN
      have hne : b - n0 ≠ i := fun e => by rw [e, hni] at h5; cases h5
      have := h2 hN
      simp only [Bool.or_eq_true, beq_iff_eq] at this
      exact ⟨this.resolve_right hne, hne⟩
    by_cases hh : b ∈ hidden ops B n0 i
    · refine .inr ⟨hh, ?_⟩
      obtain ⟨j, hj1, hj2, hj3, rfl⟩ := mem_hidden.1 hh
      have hbE : n0 + j < (Hs tE).length := Nat.lt_of_lt_of_le (T.wide j hj1 hj2) (T.mono _ (Nat.zero_le _) I.tEn)
      refine HD_live.2 ⟨hbE, fun hN => (hND hN).1, ?_⟩
      have back : (Hs (i + 1))[n0 + j]? = (Hs i)[n0 + j]? := by
        rw [hH, unhide_get, if_pos ⟨hh, by omega⟩, List.getD_eq_getElem?_getD, List.getElem?_eq_getElem (by omega)]
        rfl
      rw [← h3]
      unfold tm
      split
      · rename_i hN
        have hji : n0 + j - n0 = j := by omega
        rw [hji] at *
        obtain ⟨_, hne⟩ := hND hN
        rw [hji] at hne
        rcases Nat.lt_or_ge j i with hlt | hge
        · rw [show max (i + 1) (j + 1) = i + 1 by omega, back]
          exact (hst _ _ (by omega) (by omega) hbE (fun _ => by omega)).symm
        · rw [show max (i + 1) (j + 1) = j + 1 by omega, show max tE (j + 1) = j + 1 by omega]
      · rename_i hN
        rw [back]
        exact (hst _ tE (Nat.le_refl _) hle hbE (fun h => absurd h hN)).symm
    · refine .inl ⟨hh, ?_⟩
      have hτ : tm S ops ρs n0 (i + 1) b = i + 1 := by
        unfold tm
        split
        · rename_i hN
          obtain ⟨hDm, hne⟩ := hND hN
          obtain ⟨g1, g2⟩ := isN_spec hN
          obtain ⟨g3, g4⟩ := newW_new g2
          have hbit : (B.getD i 0).testBit (b - n0) = true := by
            cases hb : (B.getD i 0).testBit (b - n0) with
            | true => rfl
            | false => exact absurd (mem_hidden.2 ⟨b - n0, g4, g3, hb, by omega⟩) hh
          have := T.lt _ _ hbit
          omega
        · rfl
      rw [hτ, hH, unhide_get, if_neg (fun e => hh e.1)] at h3
      exact h3
  -- what is out of the effect's sight has not turned
  have far : ∀ (b : Nat) (blk : ABlk), b ∈ hidden ops B n0 i → (HD S ops ρs Hs n0 D tE)[b]? = some (some blk) → ∃ B' base, c.ι b = some (B', base) ∧ ¬ c.I B' ∧ B' < c.w.heap.size ∧ BlkRel c B' base blk ∧ ¬ Img c (hide (Hs i) (hidden ops B n0 i)) B' := by
    intro b blk hb h
    obtain ⟨B', base, h1, h2, h3, h4⟩ := I.rel.blk b blk h
    refine ⟨B', base, h1, h2, h3, h4, ?_⟩
    rintro ⟨b2, blk2, base2, h5, h6⟩
    obtain ⟨g1, _, g2⟩ := sub b2 blk2 h5
    have := I.rel.inj b b2 blk blk2 B' base base2 h g2 h1 h6
    subst this
    exact g1 hb
  have hl1 : (Hs (i + 1)).length = H1.length := by rw [hH, unhide_length]
  have hrel : Rel c' (HD S ops ρs Hs n0 (fun x => D x || x == i) (i + 1)) := by
    refine ⟨?_, ?_, ?_, hR'.lt⟩
    · intro b blk h
      rcases liv b blk h with ⟨_, h1⟩ | ⟨h1, h2⟩
      · exact hR'.blk b blk h1
      · obtain ⟨B', base, g1, g2, g3, g4, g5⟩ := far b blk h1 h2
        refine ⟨B', base, hT'.ext.ι _ _ g1, ?_, Nat.lt_of_lt_of_le g3 hT'.size, g4.ext hT'.ext (hT'.frame B' g3 g5)⟩
        intro hI
        rcases hT'.imm B' g3 hI with h | h
        · exact g2 h
        · exact g5 h
    · intro b b' blk blk' B' base base' h h' hi1 hi2
      rcases liv b blk h with ⟨g0, g1⟩ | ⟨g0, g1⟩ <;> rcases liv b' blk' h' with ⟨k0, k1⟩ | ⟨k0, k1⟩
      · exact hR'.inj b b' blk blk' B' base base' g1 k1 hi1 hi2
      · obtain ⟨B2, base2, f1, f2, f3, f4, f5⟩ := far b' blk' k0 k1
        rw [hT'.ext.ι _ _ f1] at hi2
        simp only [Option.some.injEq, Prod.mk.injEq] at hi2
        obtain ⟨rfl, rfl⟩ := hi2
        exact absurd (hT'.img B2 f3 ⟨b, blk, base, g1, hi1⟩) f5
      · obtain ⟨B2, base2, f1, f2, f3, f4, f5⟩ := far b blk g0 g1
        rw [hT'.ext.ι _ _ f1] at hi1
        simp only [Option.some.injEq, Prod.mk.injEq] at hi1
        obtain ⟨rfl, rfl⟩ := hi1
        exact absurd (hT'.img B2 f3 ⟨b', blk', base', k1, hi2⟩) f5
      · obtain ⟨B2, base2, f1, _⟩ := far b blk g0 g1
        obtain ⟨B3, base3, f2, _⟩ := far b' blk' k0 k1
        rw [hT'.ext.ι _ _ f1] at hi1
        rw [hT'.ext.ι _ _ f2] at hi2
        simp only [Option.some.injEq, Prod.mk.injEq] at hi1 hi2
        obtain ⟨rfl, rfl⟩ := hi1
        obtain ⟨rfl, rfl⟩ := hi2
        exact I.rel.inj b b' blk blk' _ _ _ g1 k1 f1 f2
    · intro b hb
      rw [HD_length, hl1] at hb
      exact hR'.fresh b hb
  have imgs : ∀ X, Img c (hide (Hs i) (hidden ops B n0 i)) X → Img c (HD S ops ρs Hs n0 D tE) X := by
    rintro X ⟨b, blk, base, h1, h2⟩
    exact ⟨b, blk, base, (sub b blk h1).2.2, h2⟩
  have htr : Tr c (HD S ops ρs Hs n0 D tE) c' (HD S ops ρs Hs n0 (fun x => D x || x == i) (i + 1)) := by
    refine ⟨hT'.ext, hT'.size, fun X hX hn => hT'.frame X hX fun h => hn (imgs X h), ?_, ?_, hT'.os, hT'.tape, hT'.output⟩
    · rintro X hX ⟨b, blk, base, h1, h2⟩
      rcases liv b blk h1 with ⟨_, g1⟩ | ⟨g0, g1⟩
      · exact imgs X (hT'.img X hX ⟨b, blk, base, g1, h2⟩)
      · obtain ⟨B2, base2, f1, _⟩ := far b blk g0 g1
        rw [hT'.ext.ι _ _ f1] at h2
        simp only [Option.some.injEq, Prod.mk.injEq] at h2
        obtain ⟨rfl, rfl⟩ := h2
        exact ⟨b, blk, base2, g1, f1⟩
    · intro X hX h
      rcases hT'.imm X hX h with h | h
      · exact .inl h
      · exact .inr (imgs X h)
  have hlow : Low lo c (HD S ops ρs Hs n0 D tE) c' (HD S ops ρs Hs n0 (fun x => D x || x == i) (i + 1)) := by
    refine ⟨?_, ?_, ?_⟩
    · intro b blk hb h
      obtain ⟨g1, g2, g3⟩ := HD_live.1 h
      have hbn : b < n0 := by omega
      have hN : isN S ops ρs n0 b = false := by simp [isN]; omega
      have hτ : ∀ t, tm S ops ρs n0 t b = t := fun t => by simp [tm, hN]
      rw [hτ] at g3
      have hnh : b ∉ hidden ops B n0 i := by
        intro hm
        obtain ⟨j, _, _, _, hj⟩ := mem_hidden.1 hm
        omega
      have hIi : (hide (Hs i) (hidden ops B n0 i))[b]? = some (some blk) := by
        rw [hide_get, if_neg (fun e => hnh e.1), hst b tE (Nat.le_refl _) hle g1 (fun h => by rw [hN] at h; cases h)]
        exact g3
      obtain ⟨h5, h6⟩ := hL'.low b blk hb hIi
      refine ⟨HD_live.2 ⟨?_, fun h => (by rw [hN] at h; cases h), ?_⟩, h6⟩
      · rw [hl1]
        exact (List.getElem?_eq_some_iff.1 h5).1
      · rw [hτ, hH, unhide_get, if_neg (fun e => hnh e.1)]
        exact h5
    · intro b hb h
      exact hL'.dom b (by omega) h
    · rw [HD_length, HD_length, hl1]
      have := hL'.len
      rw [hide_length] at this
      omega
  refine ⟨by omega, ?_, .inr ⟨i, rfl, by simp, he⟩, I.slots' T hr hT'.ext hv hρ, by rw [put_size]; exact I.size, hrel, I.tr.trans htr, I.low.trans I.tr.ext hlow, ?_, by rw [put_defers]; exact I.defers, I.down' hr, I.dlt' hr, I.glob.ext hT'.ext, I.base⟩
  · intro j hj hje
    simp only [Bool.or_eq_true, beq_iff_eq] at hj
    rcases hj with hj | hj
    · have := I.eff j hj hje
      omega
    · omega
  · intro m hm hDm
    simp only [Bool.or_eq_false_iff] at hDm
    obtain ⟨h3, h4⟩ := newW_new hm
    refine hL'.dom _ ?_ (I.undone m hm hDm.1)
    rw [hide_length]
    exact Nat.lt_of_lt_of_le (T.wide m h4 h3) (T.mono _ (Nat.zero_le _) (by omega))

end Go.Am

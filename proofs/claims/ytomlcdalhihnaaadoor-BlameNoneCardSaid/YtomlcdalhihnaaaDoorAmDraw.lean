/- That a region whose order is open keeps to the idealised one, in whatever order. Generic: over any program. -/
import Derived.Test.YtomlcdalhihnaaaDoorAmLow
import Derived.Orders
namespace Go.Am
open Go.RowKit

def newAt (ops : Array Oper) (i : Nat) : Bool := match ops[i]? with | some o => isNewB o.op | none => false
def effAt (ops : Array Oper) (i : Nat) : Bool := match ops[i]? with | some o => isEffB o.op | none => false
def dstAt (ops : Array Oper) (i : Nat) : Option Tmp := (ops[i]?).bind (·.dst)

theorem hide_get : ∀ (bs : List Nat) (H : Heap) (b : Nat), (hide H bs)[b]? = if b ∈ bs ∧ b < H.length then some none else H[b]?
  | [], H, b => by simp [hide]
  | x :: bs, H, b => by
    rw [hide, hide_get bs, List.length_set, List.getElem?_set]
    by_cases h1 : b ∈ bs <;> by_cases h2 : b < H.length <;> by_cases h3 : x = b <;> simp_all
    all_goals (intro e; exact absurd e.symm h3)

theorem hide_length : ∀ (bs : List Nat) (H : Heap), (hide H bs).length = H.length
  | [], H => rfl
  | x :: bs, H => by rw [hide, hide_length bs]; simp

theorem unhide_length : ∀ (bs : List Nat) (H0 H : Heap), (unhide H0 H bs).length = H.length
  | [], _, H => rfl
  | x :: bs, H0, H => by rw [unhide, unhide_length bs]; simp

theorem unhide_get : ∀ (bs : List Nat) (H0 H : Heap) (b : Nat), (unhide H0 H bs)[b]? = if b ∈ bs ∧ b < H.length then some (H0.getD b none) else H[b]?
  | [], _, H, b => by simp [unhide]
  | x :: bs, H0, H, b => by
    rw [unhide, unhide_get bs, List.length_set, List.getElem?_set]
    by_cases h1 : b ∈ bs <;> by_cases h2 : b < H.length <;> by_cases h3 : x = b <;> simp_all
    all_goals (intro e; exact absurd e.symm h3)

theorem mem_hidden {ops : Array Oper} {B : List Nat} {n0 k b : Nat} : b ∈ hidden ops B n0 k ↔ ∃ j, j < ops.size ∧ newAt ops j = true ∧ (B.getD k 0).testBit j = false ∧ b = n0 + j := by
  simp only [hidden, List.mem_map, List.mem_filter, List.mem_range, Bool.and_eq_true, Bool.not_eq_true']
  constructor
  · rintro ⟨j, ⟨h1, h2, h3⟩, rfl⟩
    exact ⟨j, h1, h2, h3, rfl⟩
  · rintro ⟨j, h1, h2, h3, rfl⟩
    exact ⟨j, ⟨h1, h2, h3⟩, rfl⟩

/-- A bit says: ahead, in whatever order. -/
def Bits (ops : Array Oper) (B : List Nat) : Prop :=
  ∀ (D : Nat → Bool), (∀ i o, ops[i]? = some o → D i = true → ∀ e ∈ o.after.toList, Region.binds .any e = true → D e.on = true) →
    ∀ i k, i < ops.size → D i = true → (B.getD i 0).testBit k = true → D k = true

theorem fold_bits (acc : List Nat) (k : Nat) : ∀ (es : List Edge) (s : Nat), (es.foldl (fun s e => if Region.binds .any e then s ||| 2 ^ e.on ||| acc.getD e.on 0 else s) s).testBit k = true →
    s.testBit k = true ∨ ∃ e ∈ es, Region.binds .any e = true ∧ (k = e.on ∨ (acc.getD e.on 0).testBit k = true)
  | [], s, h => .inl h
  | e :: es, s, h => by
    rw [List.foldl_cons] at h
    rcases fold_bits acc k es _ h with h1 | ⟨e', he, h2⟩
    · split at h1
      · rename_i hb
        simp only [Nat.testBit_or, Bool.or_eq_true, Nat.testBit_two_pow, decide_eq_true_eq] at h1
        rcases h1 with (h1 | h1) | h1
        · exact .inl h1
        · exact .inr ⟨e, List.mem_cons_self .., hb, .inl h1.symm⟩
        · exact .inr ⟨e, List.mem_cons_self .., hb, .inr h1⟩
      · exact .inl h1
    · exact .inr ⟨e', List.mem_cons_of_mem _ he, h2⟩

theorem befs_bits {ops : Array Oper} (D : Nat → Bool) (hD : ∀ i o, ops[i]? = some o → D i = true → ∀ e ∈ o.after.toList, Region.binds .any e = true → D e.on = true) :
    ∀ (l : List Oper) (acc : List Nat), (∀ j, l[j]? = ops[acc.length + j]?) → (∀ i k, i < acc.length → D i = true → (acc.getD i 0).testBit k = true → D k = true) →
      ∀ i k, D i = true → ((befs l acc).getD i 0).testBit k = true → D k = true
  | [], acc, _, ha, i, k, hi, hk => by
    simp only [befs] at hk
    rcases Nat.lt_or_ge i acc.length with h | h
    · exact ha i k h hi hk
    · rw [List.getD_eq_getElem?_getD, List.getElem?_eq_none h] at hk
      simp at hk
  | o :: l, acc, hl, ha, i, k, hi, hk => by
    simp only [befs] at hk
    refine befs_bits D hD l _ (fun j => ?_) ?_ i k hi hk
    · have := hl (j + 1)
      simp only [List.getElem?_cons_succ] at this
      rw [this]
      congr 1
      simp
      omega
    · intro i k hlt hDi hbit
      rcases Nat.lt_or_ge i acc.length with h | h
      · rw [List.getD_eq_getElem?_getD, List.getElem?_append_left h, ← List.getD_eq_getElem?_getD] at hbit
        exact ha i k h hDi hbit
      · have hie : i = acc.length := by simp at hlt; omega
        subst hie
        rw [List.getD_eq_getElem?_getD, List.getElem?_append_right (Nat.le_refl _)] at hbit
        simp only [Nat.sub_self, List.getElem?_cons_zero, Option.getD_some] at hbit
        have ho : ops[acc.length]? = some o := by have := hl 0; simpa using this.symm
        rcases fold_bits acc k _ _ hbit with h1 | ⟨e, he, hb, h2⟩
        · simp at h1
        · have hDe := hD _ o ho hDi e he hb
          rcases h2 with rfl | h2
          · exact hDe
          · rcases Nat.lt_or_ge e.on acc.length with h3 | h3
            · exact ha _ _ h3 hDe h2
            · rw [List.getD_eq_getElem?_getD, List.getElem?_eq_none h3] at h2
              simp at h2

theorem befs_ok (ops : Array Oper) : Bits ops (befs ops.toList []) := by
  intro D hD i k _ hi hk
  exact befs_bits D hD ops.toList [] (fun j => by simp) (fun i k h => by simp at h) i k hi hk

theorem befs_lt {ops : Array Oper} (he : ∀ j o, ops[j]? = some o → ∀ e ∈ o.after.toList, Region.binds .any e = true → e.on < j) : ∀ (l : List Oper) (acc : List Nat), (∀ j, l[j]? = ops[acc.length + j]?) →
    (∀ i k, i < acc.length → (acc.getD i 0).testBit k = true → k < i) → ∀ i k, ((befs l acc).getD i 0).testBit k = true → k < i
  | [], acc, _, ha, i, k, hk => by
    simp only [befs] at hk
    rcases Nat.lt_or_ge i acc.length with h | h
    · exact ha i k h hk
    · rw [List.getD_eq_getElem?_getD, List.getElem?_eq_none h] at hk
      simp at hk
  | o :: l, acc, hl, ha, i, k, hk => by
    simp only [befs] at hk
    refine befs_lt he l _ (fun j => ?_) ?_ i k hk
    · have := hl (j + 1)
      simp only [List.getElem?_cons_succ] at this
      rw [this]
      congr 1
      simp
      omega
    · intro i k hlt hbit
      rcases Nat.lt_or_ge i acc.length with h | h
      · rw [List.getD_eq_getElem?_getD, List.getElem?_append_left h, ← List.getD_eq_getElem?_getD] at hbit
        exact ha i k h hbit
      · have hie : i = acc.length := by simp at hlt; omega
        subst hie
        rw [List.getD_eq_getElem?_getD, List.getElem?_append_right (Nat.le_refl _)] at hbit
        simp only [Nat.sub_self, List.getElem?_cons_zero, Option.getD_some] at hbit
        have ho : ops[acc.length]? = some o := by have := hl 0; simpa using this.symm
        rcases fold_bits acc k _ _ hbit with h1 | ⟨e, hm, hb, h2⟩
        · simp at h1
        · have hlt := he _ o ho e hm hb
          rcases h2 with rfl | h2
          · exact hlt
          · have := ha _ _ hlt h2
            omega

structure PairOk (ops : Array Oper) (B : List Nat) : Prop where
  edge : ∀ j o, ops[j]? = some o → ∀ e ∈ o.after.toList, Region.binds .any e = true → e.on < j
  pair : ∀ i j x y, i < j → ops[i]? = some x → ops[j]? = some y → (B.getD j 0).testBit i = true ∨ (Oper.apart ops x y = true ∧ ¬ (isEffB x.op = true ∧ isEffB y.op = true))

theorem regionOk_spec {ops : Array Oper} {B : List Nat} (h : regionOk ops B = true) : PairOk ops B := by
  unfold regionOk at h
  rw [List.all_eq_true] at h
  have lt : ∀ j o, ops[j]? = some o → j < ops.size := by
    intro j o ho
    exact (Array.getElem?_eq_some_iff.1 ho).1
  constructor
  · intro j o ho e he hb
    have := h j (List.mem_range.2 (lt j o ho))
    simp only [ho, Bool.and_eq_true, List.all_eq_true, Bool.or_eq_true, Bool.not_eq_true', decide_eq_true_eq] at this
    rcases this.1 e he with h1 | h1
    · rw [hb] at h1; cases h1
    · exact h1
  · intro i j x y hij hx hy
    have := h j (List.mem_range.2 (lt j y hy))
    simp only [Bool.and_eq_true, List.all_eq_true] at this
    have := this.2 i (List.mem_range.2 hij)
    unfold pairOk at this
    rw [hx, hy] at this
    simp only [Bool.or_eq_true, Bool.and_eq_true, Bool.not_eq_true', Bool.and_eq_false_iff] at this
    rcases this with h1 | ⟨h1, h2⟩
    · exact .inl h1
    · refine .inr ⟨h1, fun ⟨h3, h4⟩ => ?_⟩
      rcases h2 with h2 | h2
      · rw [h3] at h2; cases h2
      · rw [h4] at h2; cases h2

inductive DStep (S : AStat) (call : CallF) (lo n0 : Nat) (ops : Array Oper) (B : List Nat) (reads : List (Nat × Nat)) (touches : List (Nat × Option (List Nat))) (k : Nat) (o : Oper) (ρ : List AVal) (H : Heap) (ρ' : List AVal) (H' : Heap) : Prop where
  | skip (hg : guardA ops.toList ρ o = some false) (hρ : ρ' = putA ρ o.dst undefA) (hH : H' = H)
  | new (hg : guardA ops.toList ρ o = some true) (hn : isNewB o.op = true) (blk : ABlk) (mk : Nat → AVal) (h : newA S ρ o.op = some (blk, mk)) (hd : H[n0 + k]? = some none)
      (hρ : ρ' = putA ρ o.dst (mk (n0 + k))) (hH : H' = H.set (n0 + k) (some blk))
  | eff (hg : guardA ops.toList ρ o = some true) (hn : isNewB o.op = false) (he : isEffB o.op = true) (v : AVal) (H1 : Heap) (h : effA S call lo ρ (hide H (hidden ops B n0 k)) o.op = some (v, H1)) (hl : H.length ≤ H1.length)
      (hρ : ρ' = putA ρ o.dst v) (hH : H' = unhide H H1 (hidden ops B n0 k)) (ht : (k, touchA S ρ o.op) ∈ touches)
  | quiet (hg : guardA ops.toList ρ o = some true) (hn : isNewB o.op = false) (he : isEffB o.op = false) (v : AVal) (h : quietA S ρ H o.op = some v) (hρ : ρ' = putA ρ o.dst v) (hH : H' = H)
      (hr : ∀ b, readsA S ρ o.op = some b → (k, b) ∈ reads)

theorem DStep.more {S : AStat} {call : CallF} {lo n0 : Nat} {ops : Array Oper} {B : List Nat} {reads reads' : List (Nat × Nat)} {touches touches' : List (Nat × Option (List Nat))} {k : Nat} {o : Oper} {ρ ρ' : List AVal} {H H' : Heap}
    (hr : ∀ x ∈ reads, x ∈ reads') (ht : ∀ x ∈ touches, x ∈ touches') (h : DStep S call lo n0 ops B reads touches k o ρ H ρ' H') : DStep S call lo n0 ops B reads' touches' k o ρ H ρ' H' := by
  cases h with
  | skip a b c => exact .skip a b c
  | new a b c d e f g h => exact .new a b c d e f g h
  | eff a b c d e f l g h i => exact .eff a b c d e f l g h (ht _ i)
  | quiet a b c d e f g h => exact .quiet a b c d e f g fun x hx => hr _ (h x hx)

theorem drawGo_trace {S : AStat} {call : CallF} {lo n0 : Nat} {ops : Array Oper} {B : List Nat} : ∀ (l : List Oper) (k : Nat) (ρ : List AVal) (H : Heap) (r : DrawOut), drawGo S call lo n0 ops B l k ρ H = some r →
    (∀ j, l[j]? = ops[k + j]?) → k + l.length = ops.size →
    ∃ (ρs : Nat → List AVal) (Hs : Nat → Heap), ρs k = ρ ∧ Hs k = H ∧ ρs ops.size = r.ρ ∧ Hs ops.size = r.H ∧
      ∀ j o, k ≤ j → ops[j]? = some o → DStep S call lo n0 ops B r.reads r.touches j o (ρs j) (Hs j) (ρs (j + 1)) (Hs (j + 1))
  | [], k, ρ, H, r, h, hl, hs => by
    simp only [drawGo, Option.some.injEq] at h
    subst h
    simp only [List.length_nil, Nat.add_zero] at hs
    subst hs
    refine ⟨fun _ => ρ, fun _ => H, rfl, rfl, rfl, rfl, fun j o hj ho => ?_⟩
    have := (Array.getElem?_eq_some_iff.1 ho).1
    omega
  | o :: l, k, ρ, H, r, h, hl, hs => by
    have ho : ops[k]? = some o := by have := hl 0; simpa using this.symm
    have hl' : ∀ j, l[j]? = ops[k + 1 + j]? := fun j => by have := hl (j + 1); simp only [List.getElem?_cons_succ] at this; rw [this]; congr 1; omega
    have hs' : k + 1 + l.length = ops.size := by simp at hs; omega
    have build : ∀ (ρ1 : List AVal) (H1 : Heap) (r1 : DrawOut), drawGo S call lo n0 ops B l (k + 1) ρ1 H1 = some r1 → r1.ρ = r.ρ → r1.H = r.H → (∀ x ∈ r1.reads, x ∈ r.reads) → (∀ x ∈ r1.touches, x ∈ r.touches) →
        DStep S call lo n0 ops B r.reads r.touches k o ρ H ρ1 H1 →
        ∃ (ρs : Nat → List AVal) (Hs : Nat → Heap), ρs k = ρ ∧ Hs k = H ∧ ρs ops.size = r.ρ ∧ Hs ops.size = r.H ∧
          ∀ j o, k ≤ j → ops[j]? = some o → DStep S call lo n0 ops B r.reads r.touches j o (ρs j) (Hs j) (ρs (j + 1)) (Hs (j + 1)) := by
      intro ρ1 H1 r1 hgo e1 e2 hr ht hd
      obtain ⟨ρs, Hs, g1, g2, g3, g4, g5⟩ := drawGo_trace l (k + 1) ρ1 H1 r1 hgo hl' hs'
      have hk : k < ops.size := (Array.getElem?_eq_some_iff.1 ho).1
      refine ⟨fun j => if j = k then ρ else ρs j, fun j => if j = k then H else Hs j, by simp, by simp, ?_, ?_, ?_⟩
      · simp only
        rw [if_neg (by omega), g3, e1]
      · simp only
        rw [if_neg (by omega), g4, e2]
      · intro j o' hj ho'
        by_cases hjk : j = k
        · subst hjk
          rw [ho] at ho'
          cases ho'
          simp only [if_true]
          rw [if_neg (by omega), if_neg (by omega), g1, g2]
          exact hd
        · simp only
          rw [if_neg hjk, if_neg hjk, if_neg (by omega), if_neg (by omega)]
          exact (g5 j o' (by omega) ho').more hr ht
    simp only [drawGo] at h
    split at h
    · cases h
    · rename_i hg
      exact build _ _ r h rfl rfl (fun _ h => h) (fun _ h => h) (.skip hg rfl rfl)
    · rename_i hg
      split at h
      · rename_i hn
        split at h
        · cases h
        · rename_i blk mk hnew
          split at h
          · rename_i hd
            exact build _ _ r h rfl rfl (fun _ h => h) (fun _ h => h) (.new hg hn blk mk hnew hd rfl rfl)
          · cases h
      · rename_i hn
        simp only [Bool.not_eq_true] at hn
        split at h
        · rename_i he
          split at h
          · cases h
          · rename_i v H1 heff
            split at h
            · rename_i hlen
              split at h
              · cases h
              · rename_i r1 hgo
                simp only [Option.some.injEq] at h
                subst h
                exact build _ _ r1 hgo rfl rfl (fun _ h => h) (fun _ h => List.mem_cons_of_mem _ h) (.eff hg hn he v H1 heff hlen rfl rfl (List.mem_cons_self ..))
            · cases h
        · rename_i he
          simp only [Bool.not_eq_true] at he
          split at h
          · cases h
          · rename_i v hq
            split at h
            · cases h
            · rename_i r1 hgo
              split at h
              · rename_i hrd
                simp only [Option.some.injEq] at h
                subst h
                exact build _ _ r1 hgo rfl rfl (fun _ h => h) (fun _ h => h) (.quiet hg hn he v hq rfl rfl (fun b hb => by rw [hrd] at hb; cases hb))
              · rename_i b hrd
                simp only [Option.some.injEq] at h
                subst h
                refine build _ _ r1 hgo rfl rfl (fun _ h => List.mem_cons_of_mem _ h) (fun _ h => h) (.quiet hg hn he v hq rfl rfl (fun b' hb => ?_))
                rw [hrd] at hb
                cases hb
                exact List.mem_cons_self ..

/-- A call of a function that leaves all as it was leaves all as it was. -/
def CallStill (S : AStat) (call : CallF) : Prop := ∀ lo g args H r H', (S.hook g).isNone = true → S.pol g = .pure ∨ S.pol g = .fresh → call lo g args H = some (r, H') → H.length ≤ H'.length ∧ ∀ b, b < H.length → H'[b]? = H[b]?

theorem callA_still (S : AStat) {rec : ExecF} (hL : RecLow rec) : CallStill S (callA S rec) := by
  intro lo g args H r H' hh hp h
  rcases hp with hp | hp
  · unfold callA at h
    split at h
    · rename_i hk hhk
      rw [hhk] at hh
      cases hh
    · split at h
      · cases h
      · split at h
        · cases h
        · split at h
          · cases h
          · cases h
          · split at h
            · cases h
            · rw [hp] at h
              simp only [finish] at h
              rw [Option.map_eq_some_iff] at h
              obtain ⟨_, _, h2⟩ := h
              simp only [Prod.mk.injEq] at h2
              rw [← h2.2]
              exact ⟨Nat.le_refl _, fun _ _ => rfl⟩
  · exact callA_fresh hL hh hp h

theorem eff_keeps {S : AStat} {call : CallF} (hC : CallStill S call) {lo : Nat} {ρ : List AVal} {H H1 : Heap} {op : Op} {v : AVal} {l : List Nat} (h : effA S call lo ρ H op = some (v, H1)) (ht : touchA S ρ op = some l) :
    H.length ≤ H1.length ∧ ∀ b, b < H.length → b ∉ l → H1[b]? = H[b]? := by
  have setk : ∀ (H : Heap) (x b : Nat) (y : Option ABlk), b ≠ x → (H.set x y)[b]? = H[b]? := fun H x b y hb => by rw [List.getElem?_set, if_neg (fun e => hb e.symm)]
  have upd : ∀ {t : TypeId} {m k y : AVal} {H1 : Heap}, mapUpdateA S.P lo t H m k y = some H1 → (blkOf m).toList = l → H.length ≤ H1.length ∧ ∀ b, b < H.length → b ∉ l → H1[b]? = H[b]? := by
    intro t m k y H1 h hl
    unfold mapUpdateA at h
    (repeat' split at h) <;> first
      | (cases h; done)
      | (simp only [Option.some.injEq] at h
         subst h
         simp only [blkOf, Option.toList_some] at hl
         subst hl
         exact ⟨by simp, fun b _ hb => setk _ _ _ _ (by simpa using hb)⟩)
  unfold effA at h
  split at h
  · rename_i t x y
    rw [Option.map_eq_some_iff] at h
    obtain ⟨H2, h1, h2⟩ := h
    simp only [Prod.mk.injEq] at h2
    obtain ⟨rfl, rfl⟩ := h2
    simp only [touchA, Option.some.injEq] at ht
    unfold storeA at h1
    split at h1
    · rename_i b off e
      rw [e] at ht
      simp only [blkOf, Option.toList_some] at ht
      subst ht
      split at h1
      · split at h1
        · simp only [Option.some.injEq] at h1
          subst h1
          exact ⟨by simp, fun b _ hb => setk _ _ _ _ (by simpa using hb)⟩
        · cases h1
      · cases h1
    · cases h1
  · rw [Option.map_eq_some_iff] at h
    obtain ⟨H2, h1, h2⟩ := h
    simp only [Prod.mk.injEq] at h2
    obtain ⟨rfl, rfl⟩ := h2
    simp only [touchA, Option.some.injEq] at ht
    exact upd h1 ht
  · rw [Option.map_eq_some_iff] at h
    obtain ⟨H2, h1, h2⟩ := h
    simp only [Prod.mk.injEq] at h2
    obtain ⟨rfl, rfl⟩ := h2
    simp only [touchA, Option.some.injEq] at ht
    exact upd h1 ht
  · rename_i args ts
    split at h
    · rename_i s x t u e1 e2
      have h0 : ∃ o0, args[0]? = some o0 ∧ evalA S ρ o0 = s := by
        cases hargs : args.toList with
        | nil => rw [hargs] at e1; simp at e1
        | cons o0 rest =>
          rw [hargs] at e1
          simp only [List.map_cons, List.cons.injEq] at e1
          refine ⟨o0, ?_, e1.1⟩
          have : args.toList[0]? = some o0 := by rw [hargs]; rfl
          simpa using this
      obtain ⟨o0, h1, h2⟩ := h0
      simp only [touchA, h1, h2] at ht
      unfold appendA at h
      (repeat' split at h) <;> first
        | (cases h; done)
        | (simp only at h; cases h; done)
        | (simp only at h
           (repeat' split at h) <;> first
            | (cases h; done)
            | (simp only [Option.some.injEq, Prod.mk.injEq] at h
               obtain ⟨_, rfl⟩ := h
               first
                | exact ⟨Nat.le_refl _, fun b _ _ => rfl⟩
                | exact ⟨by simp, fun b hb _ => List.getElem?_append_left hb⟩
                | (simp only [Option.some.injEq] at ht
                   subst ht
                   exact ⟨by simp, fun b _ hb => setk _ _ _ _ (by simpa using hb)⟩)
                | (simp only [Option.some.injEq] at ht
                   subst ht
                   exact ⟨by simp, fun b hb hb2 => by rw [List.getElem?_append_left (by simpa using hb)]; exact setk _ _ _ _ (by simpa using hb2)⟩)))
    · cases h
  · rename_i f args ts
    split at h
    · rename_i g first captured e
      simp only [touchA, e] at ht
      split at ht
      · rename_i hg
        simp only [Bool.and_eq_true, Bool.or_eq_true, beq_iff_eq] at hg
        split at h
        · simp only [Option.some.injEq, Prod.mk.injEq] at h
          obtain ⟨_, rfl⟩ := h
          exact ⟨Nat.le_refl _, fun _ _ _ => rfl⟩
        · have := hC _ _ _ _ _ _ hg.1 hg.2 h
          exact ⟨this.1, fun b hb _ => this.2 b hb⟩
      · cases ht
    · cases h
  · simp only [touchA] at ht
    cases ht
  · cases h

theorem quiet_local {S : AStat} {ρ : List AVal} {H H' : Heap} {op : Op} (h : ∀ b, readsA S ρ op = some b → H'[b]? = H[b]?) : quietA S ρ H' op = quietA S ρ H op := by
  have hat : ∀ x, (∀ b, blkOf x = some b → H'[b]? = H[b]?) → atA H' x = atA H x := by
    intro x hx
    cases x <;> simp only [atA]
    rw [hx _ rfl]
  unfold quietA
  split <;> try rfl
  · rename_i t x
    simp only [loadA]
    rw [hat _ h]
  · rename_i s d x
    have hx : ∀ sz b off len cap ex, evalA S ρ x = .sl sz b off len cap ex → H'[b]? = H[b]? := fun sz b off len cap ex e => h b (by simp only [readsA, e, slBlk])
    unfold convHA
    split
    · rfl
    · unfold strOfA
      split <;> try rfl
      split <;> try rfl
      rename_i sz b off len cap ex _ e
      rw [hx _ b _ _ _ _ e]
  · rename_i t x lo hi mx
    have hx : ∀ b off, evalA S ρ x = .ptr b off → H'[b]? = H[b]? := fun b off e => h b (by simp only [readsA, e, blkOf])
    unfold sliceA
    split <;> try rfl
    split <;> try rfl
    split <;> try rfl
    rename_i b off e
    rw [hx b off e]
  · rename_i t m x ok
    have hx : ∀ b, evalA S ρ m = .mapr b → H'[b]? = H[b]? := fun b e => h b (by simp only [readsA, e, blkOf])
    unfold lookupA
    split <;> try rfl
    split <;> try rfl
    split <;> try rfl
    split <;> try rfl
    rename_i b e
    rw [hx b e]
  · rename_i args ts
    split <;> try rfl
    rename_i t x ht hx
    have hx' : ∀ b, evalA S ρ x = .mapr b → H'[b]? = H[b]? := fun b e => h b (by simp only [readsA, hx, e])
    unfold lenA
    split <;> try rfl
    rename_i b e2 e
    rw [hx' b e]

theorem slice_dead {P : Program} {t : TypeId} {H : Heap} {b off : Nat} {lo hi mx : Option AVal} (hd : ∀ blk, H[b]? ≠ some (some blk)) : sliceA P t H (.ptr b off) lo hi mx = none := by
  unfold sliceA
  split
  · split <;> first | contradiction | rfl
  · split
    · split <;> first | contradiction | rfl
    · rfl
  · split
    · cases hh : H[b]? with
      | none => simp [hh]
      | some o => cases o with
        | none => simp [hh]
        | some blk => exact absurd hh (hd blk)
    · rfl
  · rfl

theorem slice_map {P : Program} {t : TypeId} {H : Heap} {b : Nat} {lo hi mx : Option AVal} : sliceA P t H (.mapr b) lo hi mx = none := by
  unfold sliceA
  split
  · split <;> first | contradiction | rfl
  · split
    · split <;> first | contradiction | rfl
    · rfl
  · split
    · split <;> first | contradiction | rfl
    · rfl
  · rfl

theorem lookup_dead {P : Program} {t : TypeId} {H : Heap} {b : Nat} {x : AVal} {ok : Bool} (hd : ∀ blk, H[b]? ≠ some (some blk)) : lookupA P t H (.mapr b) x ok = none := by
  unfold lookupA
  split
  · split
    · split
      · split
        all_goals first
          | contradiction
          | rfl
          | (cases hh : H[b]? with
            | none => simp_all
            | some o => cases o with
              | none => simp_all
              | some blk => exact absurd hh (hd blk))
      · rfl
    · rfl
  · rfl

theorem lookup_ptr {P : Program} {t : TypeId} {H : Heap} {b off : Nat} {x : AVal} {ok : Bool} : lookupA P t H (.ptr b off) x ok = none := by
  unfold lookupA
  split
  · split
    · split
      · split <;> first | contradiction | rfl
      · rfl
    · rfl
  · rfl

theorem len_dead {P : Program} {t : TypeId} {H : Heap} {b : Nat} (hd : ∀ blk, H[b]? ≠ some (some blk)) : lenA P t H (.mapr b) = none := by
  unfold lenA
  split <;> first
    | contradiction
    | rfl
    | (rename_i hne _; exact absurd rfl (hne _))
    | skip
  all_goals (cases hh : H[b]? with
    | none => simp_all
    | some o => cases o with
      | none => simp_all
      | some blk => exact absurd hh (hd blk))

theorem quiet_live {S : AStat} {ρ : List AVal} {H : Heap} {op : Op} {v : AVal} {b : Nat} (h : quietA S ρ H op = some v) (hb : readsA S ρ op = some b) : ∃ blk, H[b]? = some (some blk) := by
  have ptr : ∀ x, blkOf x = some b → (∃ off, x = .ptr b off) ∨ x = .mapr b := by
    intro x hx
    cases x <;> simp only [blkOf, Option.some.injEq] at hx <;> first | (cases hx; done) | (subst hx; first | exact .inl ⟨_, rfl⟩ | exact .inr rfl)
  by_cases hd : ∃ blk, H[b]? = some (some blk)
  · exact hd
  · exfalso
    have hd' : ∀ blk, H[b]? ≠ some (some blk) := fun blk e => hd ⟨blk, e⟩
    unfold readsA at hb
    split at hb
    · rename_i t x
      simp only [quietA, loadA] at h
      rw [Option.bind_eq_some_iff] at h
      obtain ⟨cs, h1, _⟩ := h
      rcases ptr _ hb with ⟨off, e⟩ | e <;> rw [e] at h1 <;> simp only [atA] at h1
      · split at h1
        · rename_i cs' hc; exact hd' _ hc
        · cases h1
      · cases h1
    · rename_i t m x ok
      simp only [quietA] at h
      rcases ptr _ hb with ⟨off, e⟩ | e <;> rw [e] at h
      · rw [lookup_ptr] at h; cases h
      · rw [lookup_dead hd'] at h; cases h
    · rename_i t x lo hi mx
      simp only [quietA] at h
      rcases ptr _ hb with ⟨off, e⟩ | e <;> rw [e] at h
      · rw [slice_dead hd'] at h; cases h
      · rw [slice_map] at h; cases h
    · rename_i s d x
      simp only [quietA] at h
      cases e : evalA S ρ x <;> rw [e] at hb <;> simp only [slBlk, Option.some.injEq] at hb <;> first | (cases hb; done) | skip
      subst hb
      rw [e] at h
      unfold convHA at h
      split at h
      · rename_i hc
        unfold convA at hc
        (repeat' split at hc) <;> first | (cases hc; done) | contradiction
      · unfold strOfA at h
        split at h
        · split at h
          · contradiction
          · contradiction
          · rename_i e2
            cases e2
            split at h
            · split at h
              · rename_i hc; exact hd' _ hc
              · cases h
            · cases h
          · cases h
        · cases h
    · rename_i args ts
      simp only [quietA] at h
      split at hb
      · rename_i x hx
        split at hb
        · rename_i b' e
          cases hb
          rw [hx] at h
          split at h
          · rename_i t x' ht hx'
            cases hx'
            rw [e] at h
            rw [len_dead hd'] at h; cases h
          · cases h
        · cases hb
      · cases hb
    · cases hb

end Go.Am

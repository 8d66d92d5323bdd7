/- The relation between an idealised memory and the model's world, and how it is carried along. Generic: over any program. -/
import Derived.Test.YtomlcdalhihnaaaDoorAmVal
namespace Go.Am
open Go.RowKit

def Es (c : Cx) : List (AVal × AVal) → List MapEntry → Prop
  | [], ms => ms = []
  | (k, v) :: es, ms => ∃ m ns, ms = m :: ns ∧ V c k m.key ∧ V c v m.val ∧ Es c es ns

theorem Es_ext {c c' : Cx} (h : Ext c c') : ∀ (es : List (AVal × AVal)) (ms : List MapEntry), Es c es ms → Es c' es ms
  | [], ms, hv => by simpa [Es] using hv
  | (k, v) :: es, ms, hv => by
    simp only [Es] at hv ⊢
    obtain ⟨m, ns, e, h1, h2, h3⟩ := hv
    exact ⟨m, ns, e, V_ext h _ _ h1, V_ext h _ _ h2, Es_ext h es ns h3⟩

theorem Es_length {c : Cx} : ∀ {es : List (AVal × AVal)} {ms : List MapEntry}, Es c es ms → es.length = ms.length
  | [], _, h => by simp [Es] at h; simp [h]
  | (_, _) :: es, _, h => by
    simp only [Es] at h
    obtain ⟨v, us, rfl, _, _, h⟩ := h
    simp [Es_length h]

def BlkRel (c : Cx) (B base : Nat) : ABlk → Prop
  | .cells cs => (∀ off, Room c.w B (off + 1) → c.w.frozen? ⟨B, off, none⟩ = false) ∧ Room c.w B (base + cs.length) ∧ ∃ vs, At c.w B base vs ∧ Vs c cs vs
  | .mp es => base = 0 ∧ ∃ ms clock, c.w.heap[B]? = some (.map ms clock) ∧ Es c es ms.toList

theorem At.of_block {w w' : World} {B off : Nat} {vs : List Value} (h : w'.heap[B]? = w.heap[B]?) (ha : At w B off vs) : At w' B off vs :=
  fun j v hj => by rw [World.cell?_of_block (w := w) h]; exact ha j v hj

theorem shape_of_block {w w' : World} {B : Nat} (h : w'.heap[B]? = w.heap[B]?) : w'.shape? B = w.shape? B := by simp [World.shape?, h]

theorem Room.of_block {w w' : World} {B n : Nat} (h : w'.heap[B]? = w.heap[B]?) (hr : Room w' B n) : Room w B n := by
  obtain ⟨t, m, hs, hn⟩ := hr
  exact ⟨t, m, by rw [← shape_of_block h]; exact hs, hn⟩

theorem BlkRel.ext {c c' : Cx} (h : Ext c c') {B base : Nat} {blk : ABlk} (hB : c'.w.heap[B]? = c.w.heap[B]?) (hb : BlkRel c B base blk) : BlkRel c' B base blk := by
  cases blk with
  | cells cs =>
    obtain ⟨h1, h2, vs, h3, h4⟩ := hb
    exact ⟨fun off hr => by rw [World.frozen?_of_block (w := c.w) hB]; exact h1 off (hr.of_block hB), h2.ext h, vs, h3.of_block hB, Vs_ext h _ _ h4⟩
  | mp es =>
    obtain ⟨h1, ms, clock, h2, h3⟩ := hb
    exact ⟨h1, ms, clock, by rw [hB]; exact h2, Es_ext h _ _ h3⟩

structure Rel (c : Cx) (H : Heap) : Prop where
  blk : ∀ b blk, H[b]? = some (some blk) → ∃ B base, c.ι b = some (B, base) ∧ ¬ c.I B ∧ B < c.w.heap.size ∧ BlkRel c B base blk
  inj : ∀ b b' blk blk' B base base', H[b]? = some (some blk) → H[b']? = some (some blk') → c.ι b = some (B, base) → c.ι b' = some (B, base') → b = b'
  fresh : ∀ b, H.length ≤ b → c.ι b = none
  lt : ∀ B, c.I B → B < c.w.heap.size

def Img (c : Cx) (H : Heap) (B : Nat) : Prop := ∃ b blk base, H[b]? = some (some blk) ∧ c.ι b = some (B, base)

structure Tr (c : Cx) (H : Heap) (c' : Cx) (H' : Heap) : Prop where
  ext : Ext c c'
  size : c.w.heap.size ≤ c'.w.heap.size
  frame : ∀ B, B < c.w.heap.size → ¬ Img c H B → c'.w.heap[B]? = c.w.heap[B]?
  img : ∀ B, B < c.w.heap.size → Img c' H' B → Img c H B
  imm : ∀ B, B < c.w.heap.size → c'.I B → c.I B ∨ Img c H B
  os : c'.w.os = c.w.os
  tape : c'.w.tape = c.w.tape
  output : c'.w.output = c.w.output

/-- What lies below lo stays; numbers that lead nowhere do so still. -/
structure Low (lo : Nat) (c : Cx) (H : Heap) (c' : Cx) (H' : Heap) : Prop where
  low : ∀ (b : Nat) (blk : ABlk), b < lo → H[b]? = some (some blk) → H'[b]? = some (some blk) ∧ ∀ B base, c.ι b = some (B, base) → c'.w.heap[B]? = c.w.heap[B]?
  dom : ∀ b, b < H.length → c.ι b = none → c'.ι b = none
  len : H.length ≤ H'.length

theorem Low.refl (lo : Nat) (c : Cx) (H : Heap) : Low lo c H c H := ⟨fun _ _ _ h => ⟨h, fun _ _ _ => rfl⟩, fun _ _ h => h, Nat.le_refl _⟩

theorem Low.trans {lo : Nat} {c c' c'' : Cx} {H H' H'' : Heap} (hE : Ext c c') (h : Low lo c H c' H') (k : Low lo c' H' c'' H'') : Low lo c H c'' H'' := by
  refine ⟨?_, fun b hb hi => k.dom b (Nat.lt_of_lt_of_le hb h.len) (h.dom b hb hi), Nat.le_trans h.len k.len⟩
  intro b blk hb hH
  obtain ⟨h1, h2⟩ := h.low b blk hb hH
  obtain ⟨h3, h4⟩ := k.low b blk hb h1
  exact ⟨h3, fun B base hi => (h4 B base (hE.ι _ _ hi)).trans (h2 B base hi)⟩

theorem Low.mono {lo lo' : Nat} {c c' : Cx} {H H' : Heap} (hl : lo' ≤ lo) (h : Low lo c H c' H') : Low lo' c H c' H' :=
  ⟨fun b blk hb hH => h.low b blk (Nat.lt_of_lt_of_le hb hl) hH, h.dom, h.len⟩

theorem Tr.refl (c : Cx) (H : Heap) : Tr c H c H :=
  ⟨Ext.refl c, Nat.le_refl _, fun _ _ _ => rfl, fun _ _ h => h, fun _ _ h => .inl h, rfl, rfl, rfl⟩

theorem Tr.trans {c c' c'' : Cx} {H H' H'' : Heap} (h : Tr c H c' H') (k : Tr c' H' c'' H'') : Tr c H c'' H'' where
  ext := h.ext.trans k.ext
  size := Nat.le_trans h.size k.size
  frame := fun B hB hI => (k.frame B (Nat.lt_of_lt_of_le hB h.size) fun hi => hI (h.img B hB hi)).trans (h.frame B hB hI)
  img := fun B hB hi => h.img B hB (k.img B (Nat.lt_of_lt_of_le hB h.size) hi)
  imm := fun B hB hi => by
    rcases k.imm B (Nat.lt_of_lt_of_le hB h.size) hi with h1 | h1
    · exact h.imm B hB h1
    · exact .inr (h.img B hB h1)
  os := k.os.trans h.os
  tape := k.tape.trans h.tape
  output := k.output.trans h.output

/-- THE ONE STEP: blocks of X turn, new ones may come; each live block of the later memory is an old one that did not turn, or is shown. -/
theorem Rel.step {c c' : Cx} {H H' : Heap} (hR : Rel c H) (X : Nat → Prop) (hX : ∀ B, X B → Img c H B)
    (hι : ∀ b x, c.ι b = some x → c'.ι b = some x) (hθ : c'.θ = c.θ) (hI : c'.I = c.I)
    (hsize : c.w.heap.size ≤ c'.w.heap.size) (hkeep : ∀ B, B < c.w.heap.size → ¬ X B → c'.w.heap[B]? = c.w.heap[B]?)
    (hshape : ∀ B t n, c.w.shape? B = some (t, n) → c'.w.shape? B = some (t, n))
    (hos : c'.w.os = c.w.os) (htape : c'.w.tape = c.w.tape) (hout : c'.w.output = c.w.output)
    (hlive : Ext c c' → ∀ b blk, H'[b]? = some (some blk) →
      (H[b]? = some (some blk) ∧ ∃ B base, c.ι b = some (B, base) ∧ ¬ X B) ∨
      (∃ B base, c'.ι b = some (B, base) ∧ ¬ c.I B ∧ B < c'.w.heap.size ∧ BlkRel c' B base blk ∧ (B < c.w.heap.size → Img c H B)))
    (hinj : ∀ b b' blk blk' B base base', H'[b]? = some (some blk) → H'[b']? = some (some blk') → c'.ι b = some (B, base) → c'.ι b' = some (B, base') → b = b')
    (hfresh : ∀ b, H'.length ≤ b → c'.ι b = none) : Rel c' H' ∧ Tr c H c' H' := by
  have hni : ∀ B, c.I B → ¬ Img c H B := by
    rintro B hB ⟨b, blk, base, h1, h2⟩
    obtain ⟨B', base', h3, h4, _⟩ := hR.blk b blk h1
    rw [h2] at h3
    simp only [Option.some.injEq, Prod.mk.injEq] at h3
    obtain ⟨rfl, rfl⟩ := h3
    exact h4 hB
  have hext : Ext c c' := ⟨hι, hθ, fun B hB => by rw [hI]; exact hB, fun B hB => hkeep B (hR.lt B hB) fun hx => hni B hB (hX B hx), hshape⟩
  refine ⟨⟨?_, hinj, hfresh, ?_⟩, ⟨hext, hsize, ?_, ?_, ?_, hos, htape, hout⟩⟩
  · intro b blk hb
    rcases hlive hext b blk hb with ⟨h1, B, base, h2, h3⟩ | ⟨B, base, h1, h2, h3, h4, _⟩
    · obtain ⟨B', base', h4, h5, h6, h7⟩ := hR.blk b blk h1
      rw [h2] at h4
      simp only [Option.some.injEq, Prod.mk.injEq] at h4
      obtain ⟨rfl, rfl⟩ := h4
      exact ⟨B, base, hι _ _ h2, by rw [hI]; exact h5, Nat.lt_of_lt_of_le h6 hsize, h7.ext hext (hkeep B h6 h3)⟩
    · exact ⟨B, base, h1, by rw [hI]; exact h2, h3, h4⟩
  · intro B hB
    rw [hI] at hB
    exact Nat.lt_of_lt_of_le (hR.lt B hB) hsize
  · exact fun B hB hi => hkeep B hB fun hx => hi (hX B hx)
  · rintro B hB ⟨b, blk, base, h1, h2⟩
    rcases hlive hext b blk h1 with ⟨h3, B', base', h4, h5⟩ | ⟨B', base', h3, h4, h5, h6, h7⟩
    · have := hι _ _ h4
      rw [h2] at this
      simp only [Option.some.injEq, Prod.mk.injEq] at this
      obtain ⟨rfl, rfl⟩ := this
      exact ⟨b, blk, base, h3, h4⟩
    · rw [h2] at h3
      simp only [Option.some.injEq, Prod.mk.injEq] at h3
      obtain ⟨rfl, rfl⟩ := h3
      exact h7 hB
  · intro B _ h
    rw [hI] at h
    exact .inl h

def Cx.put (c : Cx) (b B base : Nat) (w : World) : Cx := { c with ι := fun x => if x = b then some (B, base) else c.ι x, w := w }

theorem shape_alloc (w : World) (o : Obj) (B : Nat) (t : TypeId) (n : Nat) (h : w.shape? B = some (t, n)) : (w.alloc o).shape? B = some (t, n) := by
  have hlt : B < w.heap.size := by
    rcases Nat.lt_or_ge B w.heap.size with h1 | h1
    · exact h1
    · simp [World.shape?, Array.getElem?_eq_none h1] at h
  rw [shape_of_block (w := w)]
  · exact h
  · exact Below.heap_alloc w o B hlt

/-- A new block under the number b. -/
theorem Rel.add {c : Cx} {H H' : Heap} (hR : Rel c H) (b : Nat) (o : Obj) (blk : ABlk) (hb : c.ι b = none) (hbl : b < H'.length) (hlen : H.length ≤ H'.length)
    (hH : ∀ x y, H'[x]? = some (some y) → (x = b ∧ y = blk) ∨ (x ≠ b ∧ H[x]? = some (some y)))
    (hblk : Ext c (c.put b c.w.heap.size 0 (c.w.alloc o)) → BlkRel (c.put b c.w.heap.size 0 (c.w.alloc o)) c.w.heap.size 0 blk) :
    Rel (c.put b c.w.heap.size 0 (c.w.alloc o)) H' ∧ Tr c H (c.put b c.w.heap.size 0 (c.w.alloc o)) H' := by
  refine hR.step (fun _ => False) (fun _ h => h.elim) ?_ rfl rfl ?_ ?_ ?_ rfl rfl rfl ?_ ?_ ?_
  · intro x y hx
    simp only [Cx.put]
    rw [if_neg]
    · exact hx
    · rintro rfl; rw [hb] at hx; cases hx
  · simp [Cx.put]
  · exact fun B hB _ => Below.heap_alloc _ _ _ hB
  · exact fun B t n h => shape_alloc _ _ _ _ _ h
  · intro hext x y hx
    rcases hH x y hx with ⟨rfl, rfl⟩ | ⟨h1, h2⟩
    · refine .inr ⟨c.w.heap.size, 0, by simp [Cx.put], fun hi => ?_, by simp [Cx.put], hblk hext, fun h => absurd h (Nat.lt_irrefl _)⟩
      exact absurd (hR.lt _ hi) (Nat.lt_irrefl _)
    · obtain ⟨B, base, h3, _⟩ := hR.blk x y h2
      exact .inl ⟨h2, B, base, h3, fun h => h⟩
  · intro x x' y y' B base base' hx hx' hi hi'
    simp only [Cx.put] at hi hi'
    rcases hH x y hx with ⟨rfl, rfl⟩ | ⟨h1, h2⟩ <;> rcases hH x' y' hx' with ⟨h3, h4⟩ | ⟨h3, h4⟩
    · exact h3.symm
    · rw [if_pos rfl] at hi
      rw [if_neg h3] at hi'
      simp only [Option.some.injEq, Prod.mk.injEq] at hi
      obtain ⟨B1, b1, h5, _, h7, _⟩ := hR.blk x' y' h4
      rw [hi'] at h5
      simp only [Option.some.injEq, Prod.mk.injEq] at h5
      obtain ⟨rfl, rfl⟩ := h5
      exact absurd h7 (by rw [← hi.1]; exact Nat.lt_irrefl _)
    · subst h3
      rw [if_pos rfl] at hi'
      rw [if_neg h1] at hi
      simp only [Option.some.injEq, Prod.mk.injEq] at hi'
      obtain ⟨B1, b1, h5, _, h7, _⟩ := hR.blk x y h2
      rw [hi] at h5
      simp only [Option.some.injEq, Prod.mk.injEq] at h5
      obtain ⟨rfl, rfl⟩ := h5
      exact absurd h7 (by rw [← hi'.1]; exact Nat.lt_irrefl _)
    · rw [if_neg h1] at hi
      rw [if_neg h3] at hi'
      exact hR.inj x x' y y' B base base' h2 h4 hi hi'
  · intro x hx
    simp only [Cx.put]
    rw [if_neg (by omega)]
    exact hR.fresh x (by omega)

theorem Rel.add_low {c : Cx} {H H' : Heap} (hR : Rel c H) (lo b : Nat) (o : Obj) (hb : H.length ≤ b) (hl : H.length ≤ H'.length) (hH : ∀ (x : Nat) (y : ABlk), H[x]? = some (some y) → H'[x]? = some (some y)) :
    Low lo c H (c.put b c.w.heap.size 0 (c.w.alloc o)) H' := by
  refine ⟨?_, fun x hx h => ?_, hl⟩
  · intro x y _ hx
    refine ⟨hH x y hx, fun B base hi => ?_⟩
    obtain ⟨B', base', h1, _, h2, _⟩ := hR.blk x y hx
    rw [hi] at h1
    simp only [Option.some.injEq, Prod.mk.injEq] at h1
    obtain ⟨rfl, rfl⟩ := h1
    exact Below.heap_alloc _ _ _ h2
  · simp only [Cx.put]
    rw [if_neg (by omega)]
    exact h

/-- One block's content turns. -/
theorem Rel.update {c : Cx} {H : Heap} (hR : Rel c H) {b B base : Nat} {blk blk' : ABlk} (hb : H[b]? = some (some blk)) (hi : c.ι b = some (B, base)) (w' : World)
    (hsize : w'.heap.size = c.w.heap.size) (hkeep : ∀ X, X ≠ B → w'.heap[X]? = c.w.heap[X]?) (hshape : ∀ B t n, c.w.shape? B = some (t, n) → w'.shape? B = some (t, n))
    (hos : w'.os = c.w.os) (htape : w'.tape = c.w.tape) (hout : w'.output = c.w.output)
    (hblk : Ext c { c with w := w' } → BlkRel { c with w := w' } B base blk') :
    Rel { c with w := w' } (H.set b (some blk')) ∧ Tr c H { c with w := w' } (H.set b (some blk')) := by
  have himg : Img c H B := ⟨b, blk, base, hb, hi⟩
  obtain ⟨B0, base0, h3, h4, h5, _⟩ := hR.blk b blk hb
  rw [hi] at h3
  simp only [Option.some.injEq, Prod.mk.injEq] at h3
  obtain ⟨rfl, rfl⟩ := h3
  have hget : ∀ x y, (H.set b (some blk'))[x]? = some (some y) → (x = b ∧ y = blk') ∨ (x ≠ b ∧ H[x]? = some (some y)) := by
    intro x y hx
    rw [List.getElem?_set] at hx
    split at hx
    · rename_i e
      split at hx
      · simp only [Option.some.injEq] at hx
        exact .inl ⟨e.symm, hx.symm⟩
      · cases hx
    · rename_i e
      exact .inr ⟨fun h => e h.symm, hx⟩
  refine hR.step (fun X => X = B) (fun _ h => h ▸ himg) (fun _ _ h => h) rfl rfl ?_ ?_ hshape hos htape hout ?_ ?_ ?_
  · show c.w.heap.size ≤ w'.heap.size
    omega
  · exact fun X _ hX => hkeep X hX
  · intro hext x y hx
    rcases hget x y hx with ⟨rfl, rfl⟩ | ⟨h1, h2⟩
    · exact .inr ⟨B, base, hi, h4, by show B < w'.heap.size; omega, hblk hext, fun _ => himg⟩
    · obtain ⟨B1, b1, h6, _, _, _⟩ := hR.blk x y h2
      refine .inl ⟨h2, B1, b1, h6, ?_⟩
      rintro rfl
      exact h1 (hR.inj x b y blk B1 b1 base h2 hb h6 hi)
  · intro x x' y y' B base base' hx hx' hi hi'
    have live : ∀ (x : Nat) (y : ABlk), (H.set b (some blk'))[x]? = some (some y) → ∃ z : ABlk, H[x]? = some (some z) := by
      intro x y hx
      rcases hget x y hx with ⟨rfl, rfl⟩ | ⟨h1, h2⟩
      · exact ⟨_, hb⟩
      · exact ⟨_, h2⟩
    obtain ⟨z, hz⟩ := live x y hx
    obtain ⟨z', hz'⟩ := live x' y' hx'
    exact hR.inj x x' z z' B base base' hz hz' hi hi'
  · intro x hx
    rw [List.length_set] at hx
    exact hR.fresh x hx

theorem Rel.set_low {c c' : Cx} {H H' : Heap} (hR : Rel c H) {lo b B base : Nat} {blk : ABlk} (hlo : lo ≤ b) (hb : H[b]? = some (some blk)) (hi : c.ι b = some (B, base))
    (hkeep : ∀ X, X ≠ B → c'.w.heap[X]? = c.w.heap[X]?) (hH : ∀ (x : Nat) (y : ABlk), x ≠ b → H[x]? = some (some y) → H'[x]? = some (some y))
    (hdom : ∀ b, b < H.length → c.ι b = none → c'.ι b = none) (hl : H.length ≤ H'.length) : Low lo c H c' H' := by
  refine ⟨?_, hdom, hl⟩
  intro x y hx hxy
  refine ⟨hH x y (by omega) hxy, fun B' base' hi' => hkeep B' ?_⟩
  rintro rfl
  have := hR.inj x b y blk B' base' base hxy hb hi' hi
  omega

/-- A block is given up and goes on, turned, under the next number. -/
theorem Rel.renew {c : Cx} {H : Heap} (hR : Rel c H) {b B base base' : Nat} {blk blk' : ABlk} (hb : H[b]? = some (some blk)) (hi : c.ι b = some (B, base)) (w' : World)
    (hsize : w'.heap.size = c.w.heap.size) (hkeep : ∀ X, X ≠ B → w'.heap[X]? = c.w.heap[X]?) (hshape : ∀ B t n, c.w.shape? B = some (t, n) → w'.shape? B = some (t, n))
    (hos : w'.os = c.w.os) (htape : w'.tape = c.w.tape) (hout : w'.output = c.w.output)
    (hblk : Ext c (c.put H.length B base' w') → BlkRel (c.put H.length B base' w') B base' blk') :
    Rel (c.put H.length B base' w') (H.set b none ++ [some blk']) ∧ Tr c H (c.put H.length B base' w') (H.set b none ++ [some blk']) := by
  have himg : Img c H B := ⟨b, blk, base, hb, hi⟩
  obtain ⟨B0, base0, h3, h4, h5, _⟩ := hR.blk b blk hb
  rw [hi] at h3
  simp only [Option.some.injEq, Prod.mk.injEq] at h3
  obtain ⟨rfl, rfl⟩ := h3
  have hget : ∀ x y, (H.set b none ++ [some blk'])[x]? = some (some y) → (x = H.length ∧ y = blk') ∨ (x ≠ b ∧ x < H.length ∧ H[x]? = some (some y)) := by
    intro x y hx
    rcases Nat.lt_or_ge x H.length with hl | hl
    · rw [List.getElem?_append_left (by simpa using hl), List.getElem?_set] at hx
      split at hx
      · split at hx <;> cases hx
      · rename_i e
        exact .inr ⟨fun h => e h.symm, hl, hx⟩
    · rw [List.getElem?_append_right (by simpa using hl)] at hx
      rw [List.length_set] at hx
      rcases Nat.eq_or_lt_of_le hl with e | e
      · subst e
        simp at hx
        exact .inl ⟨rfl, hx.symm⟩
      · have : x - H.length = (x - H.length - 1) + 1 := by omega
        rw [this] at hx
        simp at hx
  refine hR.step (fun X => X = B) (fun _ h => h ▸ himg) ?_ rfl rfl ?_ ?_ hshape hos htape hout ?_ ?_ ?_
  · intro x y hx
    simp only [Cx.put]
    rw [if_neg]
    · exact hx
    · rintro rfl; rw [hR.fresh _ (Nat.le_refl _)] at hx; cases hx
  · show c.w.heap.size ≤ w'.heap.size
    omega
  · exact fun X _ hX => hkeep X hX
  · intro hext x y hx
    rcases hget x y hx with ⟨rfl, rfl⟩ | ⟨h1, hl, h2⟩
    · exact .inr ⟨B, base', by simp [Cx.put], h4, by show B < w'.heap.size; omega, hblk hext, fun _ => himg⟩
    · obtain ⟨B1, b1, h6, _, _, _⟩ := hR.blk x y h2
      refine .inl ⟨h2, B1, b1, h6, ?_⟩
      rintro rfl
      exact h1 (hR.inj x b y blk B1 b1 base h2 hb h6 hi)
  · intro x x' y y' B1 base1 base1' hx hx' hi1 hi1'
    simp only [Cx.put] at hi1 hi1'
    have other : ∀ x y bb, x ≠ b → H[x]? = some (some y) → c.ι x = some (B, bb) → False := fun x y bb h1 h2 h6 => h1 (hR.inj x b y blk B bb base h2 hb h6 hi)
    rcases hget x y hx with ⟨rfl, rfl⟩ | ⟨h1, hl, h2⟩ <;> rcases hget x' y' hx' with ⟨h3, _⟩ | ⟨h3, hl', h4⟩
    · exact h3.symm
    · rw [if_pos rfl] at hi1
      rw [if_neg (by omega)] at hi1'
      simp only [Option.some.injEq, Prod.mk.injEq] at hi1
      obtain ⟨rfl, _⟩ := hi1
      exact (other x' y' _ h3 h4 hi1').elim
    · subst h3
      rw [if_pos rfl] at hi1'
      rw [if_neg (by omega)] at hi1
      simp only [Option.some.injEq, Prod.mk.injEq] at hi1'
      obtain ⟨rfl, _⟩ := hi1'
      exact (other x y _ h1 h2 hi1).elim
    · rw [if_neg (by omega)] at hi1
      rw [if_neg (by omega)] at hi1'
      exact hR.inj x x' y y' B1 base1 base1' h2 h4 hi1 hi1'
  · intro x hx
    simp only [List.length_append, List.length_set, List.length_cons, List.length_nil] at hx
    simp only [Cx.put]
    rw [if_neg (by omega)]
    exact hR.fresh x (by omega)

/-- A block is let go of. -/
theorem Rel.drop {c : Cx} {H : Heap} (hR : Rel c H) (b : Nat) : Rel c (H.set b none) ∧ Tr c H c (H.set b none) := by
  have hget : ∀ (x : Nat) (y : ABlk), (H.set b none)[x]? = some (some y) → H[x]? = some (some y) := by
    intro x y hx
    rw [List.getElem?_set] at hx
    split at hx
    · split at hx <;> cases hx
    · exact hx
  refine ⟨⟨fun x y hx => hR.blk x y (hget x y hx), fun x x' y y' B b1 b2 h1 h2 => hR.inj x x' y y' B b1 b2 (hget _ _ h1) (hget _ _ h2), fun x hx => hR.fresh x (by simpa using hx), hR.lt⟩,
    ⟨Ext.refl c, Nat.le_refl _, fun _ _ _ => rfl, ?_, fun _ _ h => .inl h, rfl, rfl, rfl⟩⟩
  rintro B _ ⟨x, y, base, h1, h2⟩
  exact ⟨x, y, base, hget x y h1, h2⟩

end Go.Am

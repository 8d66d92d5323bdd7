/- What the laid variables give: a row of sentinels at so many places, a type's handle; memory that is made and not looked at. Generic: over any program. -/
import Derived.Test.YtomlcdalhihnaaaDoorAmWp
import Derived.Test.YtomlcdalhihnaaaDoorAmTop
import Derived.LaidLaws
import Derived.LaidHandle
namespace Go.Am
open Go.RowKit Go.ChangeShapes Go.WideShapes

/-- A new block of which nothing is said. -/
theorem Rel.waste {c : Cx} {H : Heap} (hR : Rel c H) (o : Obj) (lo : Nat) : Rel { c with w := c.w.alloc o } H ∧ Tr c H { c with w := c.w.alloc o } H ∧ Low lo c H { c with w := c.w.alloc o } H := by
  have keep : ∀ B, B < c.w.heap.size → (c.w.alloc o).heap[B]? = c.w.heap[B]? := fun B hB => Below.heap_alloc _ _ _ hB
  have h := hR.step (c' := { c with w := c.w.alloc o }) (H' := H) (fun _ => False) (fun _ h => h.elim) (fun _ _ h => h) rfl rfl (by simp) (fun B hB _ => keep B hB) (fun _ _ _ h => shape_alloc _ _ _ _ _ h) rfl rfl rfl
    (fun _ b blk hb => by obtain ⟨B, base, h1, _⟩ := hR.blk b blk hb; exact .inl ⟨hb, B, base, h1, fun h => h⟩) hR.inj hR.fresh
  refine ⟨h.1, h.2, ⟨fun x y _ hx => ⟨hx, fun B base hi => ?_⟩, fun _ _ h => h, Nat.le_refl _⟩⟩
  obtain ⟨B', base', h1, _, h2, _⟩ := hR.blk x y hx
  rw [hi] at h1
  simp only [Option.some.injEq, Prod.mk.injEq] at h1
  obtain ⟨rfl, rfl⟩ := h1
  exact keep _ h2

theorem Wrote.setCell {w : World} {B o : Nat} {u v : Value} (h : w.cell? ⟨B, o, none⟩ = some u) : Wrote w (w.setCell ⟨B, o, none⟩ v) B o [v] where
  size := by simp
  keep := fun X hX => Below.heap_setCell _ _ _ _ hX
  shape := fun X => shape_setCell _ _ _ _
  frozen := fun a => by simp
  os := rfl
  tape := rfl
  output := rfl
  new := by
    intro j x hj
    cases j with
    | zero =>
      simp at hj
      subst hj
      exact World.cell?_setCell_same _ _ _ h
    | succ j => simp at hj
  old := by
    intro off hoff
    refine World.cell?_setCell_other _ _ _ _ ?_
    simp at hoff
    intro e
    simp only [Addr.mk.injEq] at e
    omega

def sentD (nm : String) (text : List UInt8) : DataW Unit := .iface nm (.ptr (.agg [.lit (.string text)]))

theorem laid_sents {P : Program} {W : World} {nm : String} {ti tp te ts : TypeId} {ms : Array (String × TypeId)} {f : Field}
    (hi : P.underlying ti = some (.interface ms)) (hrow : ∀ u, P.typeName? 3 u = some nm → u = tp)
    (hp : P.underlying tp = some (.pointer te)) (he : P.underlying te = some (.struct #[f])) (hft : f.type = ts) (hfo : f.offset = 0) (hs : P.underlying ts = some .string) (hc : P.cellsOf te = 1) (hcs : P.cellsOf ts = 1) :
    ∀ (rows : List (String × Nat × List UInt8)) {rest : List (String × DataW Unit)} {ps : List MemPlace}, (∀ r ∈ rows, P.globalNamed r.1 = some r.2.1 ∧ (P.globals[r.2.1]?).map (·.type) = some ti) →
      DataW.LaidVars P W (rows.map (fun r => (r.1, sentD nm r.2.2)) ++ rest) ps → ps.Nodup →
      (∀ b off, MemPlace.cell b off ∈ ps → (∃ c t, W.heap[b]? = some (.cells c t (0, 0))) ∧ ∀ u v, W.cell? ⟨b, off, none⟩ = some (.iface u v) → Value.okWide P W .any 0 u v) →
      ∃ θ : List (Nat × Nat), θ.length = rows.length ∧ θ.Nodup ∧ (∀ x ∈ θ, MemPlace.cell x.1 x.2 ∈ ps) ∧
        ∀ (i : Nat) r B o, rows[i]? = some r → θ[i]? = some (B, o) → W.cell? ⟨r.2.1, 0, none⟩ = some (.iface tp (.pointer (some ⟨B, o, none⟩))) ∧ (∃ s, W.cell? ⟨B, o, none⟩ = some (.string s) ∧ s.data.toList = r.2.2) ∧ ∃ c t, W.heap[B]? = some (.cells c t (0, 0))
  | [], rest, ps, _, _, _, _ => ⟨[], rfl, List.nodup_nil, (fun x hx => by cases hx), fun i r B o h => by simp at h⟩
  | r :: rows, rest, ps, hg, hl, hnd, hrows => by
    obtain ⟨g0, t0, cs0, f0, p0, q0, hg0, ht0, hv0, hd0, hq, e0⟩ := hl
    obtain ⟨h1, h2⟩ := hg r (by simp)
    obtain rfl := Option.some.inj (h1.symm.trans hg0)
    obtain rfl := Option.some.inj (h2.symm.trans ht0)
    subst e0
    obtain ⟨l0⟩ := cs0
    have ok0 : ∀ u v, l0 = [.iface u v] → Value.okWide P W .any 0 u v := fun u v e => by
      subst e
      exact (hrows r.2.1 0 (by simp [MemPlace.row])).2 u v (by simpa using World.var?_cell hg0 hv0 0)
    obtain ⟨a0, s0, rfl, hc0, hs0, _, rfl⟩ := errorString_of_trod hi hrow hp he hft hfo hs hc hcs hd0 ok0
    have hspot : a0.spot = none := by
      unfold World.cell? at hc0
      split at hc0
      · split at hc0
        · cases hc0
        · rename_i h; simpa using h
      · cases hc0
    obtain ⟨ab, ao, asp⟩ := a0
    simp only at hspot
    subst hspot
    have hnd2 := (List.nodup_append.1 hnd)
    obtain ⟨θ, k1, k2, k3, k4⟩ := laid_sents hi hrow hp he hft hfo hs hc hcs rows (fun x hx => hg x (by simp [hx])) hq hnd2.2.1 (fun b off hm => hrows b off (List.mem_append_right _ hm))
    refine ⟨(ab, ao) :: θ, by simp [k1], ?_, ?_, ?_⟩
    · refine List.nodup_cons.2 ⟨fun hm => ?_, k2⟩
      exact hnd2.2.2 (MemPlace.cell ab ao) (by simp [MemPlace.row]) _ (k3 _ hm) rfl
    · intro x hx
      rcases List.mem_cons.1 hx with rfl | hx
      · exact List.mem_append_left _ (by simp [MemPlace.row])
      · exact List.mem_append_right _ (k3 x hx)
    · intro i r' B o hr hθ
      cases i with
      | zero =>
        simp only [List.getElem?_cons_zero, Option.some.injEq, Prod.mk.injEq] at hr hθ
        obtain ⟨rfl, rfl⟩ := hθ
        subst hr
        refine ⟨by simpa using World.var?_cell hg0 hv0 0, ⟨s0, hc0, hs0⟩, ?_⟩
        exact (hrows ab ao (List.mem_append_left _ (by simp [MemPlace.row]))).1
      | succ i => exact k4 i r' B o (by simpa using hr) (by simpa using hθ)

/-- The sentinel's cell, as an idealised one. -/
theorem sent_V {W : World} {θ : List (Nat × Nat)} {tp : TypeId} {g i B o : Nat} {text : List UInt8} (hθ : θ.Nodup) (hi : θ[i]? = some (B, o))
    (h : W.cell? ⟨g, 0, none⟩ = some (.iface tp (.pointer (some ⟨B, o, none⟩))) ∧ (∃ s, W.cell? ⟨B, o, none⟩ = some (.string s) ∧ s.data.toList = text) ∧ ∃ c t, W.heap[B]? = some (.cells c t (0, 0))) :
    V (cx0 W θ) (.ipt [.iface tp (.eptr i [.str text])]) (.pointer (some ⟨g, 0, none⟩)) := by
  obtain ⟨h1, ⟨s, h2, h3⟩, c, t, h4⟩ := h
  have lt : ∀ b off v, W.cell? ⟨b, off, none⟩ = some v → b < W.heap.size := by
    intro b off v hv
    rcases Nat.lt_or_ge b W.heap.size with h | h
    · exact h
    · simp [World.cell?, Array.getElem?_eq_none h] at hv
  have at1 : ∀ b off v, W.cell? ⟨b, off, none⟩ = some v → At W b off [v] := by
    intro b off v hv j x hj
    cases j with
    | zero => simp at hj; subst hj; exact hv
    | succ j => simp at hj
  simp only [V, Vs, Cx.pure]
  exact ⟨g, 0, _, rfl, lt _ _ _ h1, at1 _ _ _ h1, _, _, rfl, ⟨_, rfl, B, o, _, hθ, hi, rfl, lt _ _ _ h2, at1 _ _ _ h2, ⟨_, _, rfl, ⟨s, rfl, h3⟩, rfl⟩, c, t, h4⟩, rfl⟩

/-- A handle's cell, as an idealised one. -/
theorem hnd_V {W : World} {θ : List (Nat × Nat)} {u : TypeId} {g b off : Nat} (h : W.cell? ⟨g, 0, none⟩ = some (.iface u (.agg #[.pointer (some ⟨b, off, none⟩)]))) :
    V (cx0 W θ) (.ipt [.iface u (.agg [.hnd b off])]) (.pointer (some ⟨g, 0, none⟩)) := by
  have lt : g < W.heap.size := by
    rcases Nat.lt_or_ge g W.heap.size with hh | hh
    · exact hh
    · simp [World.cell?, Array.getElem?_eq_none hh] at h
  simp only [V, Vs]
  refine ⟨g, 0, _, rfl, lt, ?_, _, _, rfl, ⟨_, rfl, [.pointer (some ⟨b, off, none⟩)], rfl, _, _, rfl, rfl, rfl⟩, rfl⟩
  intro j x hj
  cases j with
  | zero => simp at hj; subst hj; exact h
  | succ j => simp at hj

/-- A place of one's own, in the model's world. -/
theorem own_place {c : Cx} {H : Heap} (hR : Rel c H) {b off : Nat} {cs : List AVal} (hb : H[b]? = some (some (.cells cs))) (ho : off < cs.length) {v : Value} (hv : V c (.ptr b off) v) :
    ∃ B base, c.ι b = some (B, base) ∧ v = .pointer (some ⟨B, base + off, none⟩) ∧ (∃ u, c.w.cell? ⟨B, base + off, none⟩ = some u) ∧ c.w.frozen? ⟨B, base + off, none⟩ = false ∧ B < c.w.heap.size := by
  simp only [V] at hv
  obtain ⟨B, base, hi, rfl⟩ := hv
  obtain ⟨B0, base0, h3, _, hlt, hf, hroom, _⟩ := hR.blk b _ hb
  rw [hi] at h3
  simp only [Option.some.injEq, Prod.mk.injEq] at h3
  obtain ⟨rfl, rfl⟩ := h3
  exact ⟨B, base, hi, rfl, cell_of_room hroom (by omega), hf _ (hroom.mono (by omega)), hlt⟩

/-- Four blocks are made, of which nothing is said; then one cell of one's own is written. -/
theorem Rel.four_set {c : Cx} {H : Heap} (hR : Rel c H) (o1 o2 o3 o4 : Obj) {lo b off B base : Nat} {cs : List AVal} (hlo : lo ≤ b) (hb : H[b]? = some (some (.cells cs))) (ho : off < cs.length) (hi : c.ι b = some (B, base))
    {a : AVal} {v : Value} (hv : V c a v) {w' : World} (hw : w' = ((((c.w.alloc o1).alloc o2).alloc o3).alloc o4).setCell ⟨B, base + off, none⟩ v) :
    ∃ c', c'.w = w' ∧ Rel c' (H.set b (some (.cells (splice cs off [a])))) ∧ Tr c H c' (H.set b (some (.cells (splice cs off [a])))) ∧ Low lo c H c' (H.set b (some (.cells (splice cs off [a])))) := by
  obtain ⟨r1, t1, l1⟩ := hR.waste o1 lo
  obtain ⟨r2, t2, l2⟩ := r1.waste o2 lo
  obtain ⟨r3, t3, l3⟩ := r2.waste o3 lo
  obtain ⟨r4, t4, l4⟩ := r3.waste o4 lo
  have t := ((t1.trans t2).trans t3).trans t4
  have l := (((l1.trans t1.ext l2).trans (t1.trans t2).ext l3).trans ((t1.trans t2).trans t3).ext l4)
  obtain ⟨B0, base0, h3, _, _, hf, hroom, _⟩ := r4.blk b _ hb
  have hi' : ({ c with w := (((c.w.alloc o1).alloc o2).alloc o3).alloc o4 } : Cx).ι b = some (B, base) := hi
  rw [hi'] at h3
  simp only [Option.some.injEq, Prod.mk.injEq] at h3
  obtain ⟨rfl, rfl⟩ := h3
  obtain ⟨u, hu⟩ := cell_of_room hroom (off := base + off) (by omega)
  have hW := Wrote.setCell (v := v) hu
  have hv4 : Vs ({ c with w := (((c.w.alloc o1).alloc o2).alloc o3).alloc o4 } : Cx) [a] [v] := by
    simp only [Vs]
    exact ⟨v, [], rfl, V_ext t.ext _ _ hv, rfl⟩
  obtain ⟨g1, g2⟩ := r4.write hb hi' hW hv4 (by simp; omega)
  subst hw
  refine ⟨_, rfl, g1, t.trans g2, l.trans t.ext ?_⟩
  exact r4.set_low hlo hb hi' hW.keep (fun x y hx hxy => by rw [List.getElem?_set, if_neg (fun e => hx e.symm)]; exact hxy) (fun _ _ h => h) (by simp)

/-- Three blocks are made, of which nothing is said. -/
theorem Rel.three {c : Cx} {H : Heap} (hR : Rel c H) (o1 o2 o3 : Obj) (lo : Nat) {w' : World} (hw : w' = ((c.w.alloc o1).alloc o2).alloc o3) :
    ∃ c', c'.w = w' ∧ Rel c' H ∧ Tr c H c' H ∧ Low lo c H c' H := by
  obtain ⟨r1, t1, l1⟩ := hR.waste o1 lo
  obtain ⟨r2, t2, l2⟩ := r1.waste o2 lo
  obtain ⟨r3, t3, l3⟩ := r2.waste o3 lo
  subst hw
  exact ⟨_, rfl, r3, (t1.trans t2).trans t3, (l1.trans t1.ext l2).trans (t1.trans t2).ext l3⟩

end Go.Am

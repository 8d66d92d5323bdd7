/- That the model's operations keep to the idealised ones: append. Generic: over any program. -/
import Derived.Test.YtomlcdalhihnaaaDoorAmSim6
namespace Go.Am
open Go.RowKit
variable {P : Program}

theorem Vs_flat {c : Cx} {sz : Nat} : ∀ {rows : List (List AVal)} {vs : List Value}, Vss c sz rows vs → Vs c rows.flatten vs
  | [], _, h => by simp [Vss] at h; subst h; simp [Vs]
  | r :: rows, _, h => by
    simp only [Vss] at h
    obtain ⟨us, ws, rfl, _, h1, h2⟩ := h
    simp only [List.flatten_cons]
    exact Vs_append h1 (Vs_flat h2)

theorem loadCells_At {w : World} {B o : Nat} {vs : List Value} (h : At w B o vs) : (loadCells ⟨B, o, none⟩ vs.length).run P w = .ok vs.toArray w :=
  run_loadCells_list w ⟨B, o, none⟩ vs fun j v hj => by rw [add_plain]; exact h j v hj

theorem rowsA_sim {c : Cx} {H : Heap} (hR : Rel c H) {sz : Nat} {x : AVal} {rows : List (List AVal)} {v : Value} (h : rowsA H sz x = some rows) (hv : V c x v) :
    (∀ w, (Builtin.lenOf v).run P w = .ok rows.length w) ∧ ∃ arr, (∀ w, w.heap = c.w.heap → (Builtin.firstCells sz rows.length v).run P w = .ok arr w) ∧ Vs c rows.flatten arr.toList ∧ arr.size = rows.length * sz := by
  unfold rowsA at h
  split at h
  · simp only [Option.some.injEq] at h
    subst h
    simp only [V] at hv
    subst hv
    exact ⟨fun _ => rfl, #[], fun _ _ => by simp [Builtin.firstCells], by simp [Vs], by simp⟩
  · rename_i s rws ex
    split at h
    · rename_i hs
      subst hs
      simp only [Option.some.injEq] at h
      subst h
      simp only [V] at hv
      obtain ⟨B, off, cap, vs, rfl, _, _, _, ha, hvs⟩ := hv
      have hl := Vss_length hvs
      refine ⟨fun _ => rfl, vs.toArray, fun w hw => ?_, Vs_ext (Ext.of_pure c) _ _ (Vs_flat hvs), by simp [hl]⟩
      have := loadCells_At (P := P) (w := w) (ha.of_block (by rw [hw]))
      rw [hl] at this
      simp [Builtin.firstCells, this]
    · cases h
  · rename_i s
    split at h
    · rename_i hs
      subst hs
      simp only [Option.some.injEq] at h
      subst h
      simp only [V] at hv
      obtain ⟨t, rfl, rfl⟩ := hv
      have hl : (t.data.toList.map fun b => [AVal.int .u8 b.toNat]).length = t.size := by
        simp only [List.length_map, Array.length_toList]
        rfl
      rw [hl]
      refine ⟨fun _ => rfl, (t.extract 0 t.size).data.map (fun b => .int .u8 b.toNat), fun _ _ => by simp [Builtin.firstCells], ?_, ?_⟩
      · have e : (t.extract 0 t.size).data = t.data := by simp
        rw [e, Array.toList_map]
        generalize t.data.toList = l
        induction l with
        | nil => simp [Vs]
        | cons b l ih =>
          simp only [List.map_cons, List.flatten_cons, List.cons_append, List.nil_append, Vs]
          exact ⟨_, _, rfl, by simp [V], ih⟩
      · have e : (t.extract 0 t.size).data = t.data := by simp
        rw [e, Array.size_map, Nat.mul_one]
        rfl
    · cases h
  · rename_i s b off len cap ex
    split at h
    · rename_i hs
      subst hs
      split at h
      · rename_i cs hb
        split at h
        · rename_i hle
          simp only [Option.some.injEq] at h
          subst h
          simp only [V] at hv
          obtain ⟨B, base, k, o, hi, rfl, ho, h1, h2, _, _⟩ := hv
          obtain ⟨B0, base0, h3, _, _, _, _, vs, ha, hvs⟩ := hR.blk b _ hb
          rw [hi] at h3
          simp only [Option.some.injEq, Prod.mk.injEq] at h3
          obtain ⟨rfl, rfl⟩ := h3
          have hl := Vs_length hvs
          have hch := chunk_Vss (sz := s) len (Vs_drop off hvs) (by simp; omega)
          rw [chunk_length]
          have hvl := Vss_length hch
          rw [chunk_length] at hvl
          refine ⟨fun _ => rfl, ((vs.drop off).take (len * s)).toArray, fun w hw => ?_, Vs_flat hch, by simpa using hvl⟩
          by_cases hk : 0 < k
          · have ho' := ho hk
            subst ho'
            have := loadCells_At (P := P) (w := w) ((At_take (len * s) (At_drop off ha)).of_block (by rw [hw]))
            rw [hvl] at this
            simp [Builtin.firstCells, this]
          · have hl0 : len = 0 := by omega
            subst hl0
            simp [Builtin.firstCells, loadCells, loadCellsFrom]
        · cases h
      · cases h
    · cases h
  · cases h

theorem chunk_flatten (sz : Nat) : ∀ (n : Nat) (cs : List AVal), n * sz ≤ cs.length → (chunk sz n cs).flatten = cs.take (n * sz)
  | 0, cs, _ => by simp [chunk]
  | n + 1, cs, h => by
    have e : (n + 1) * sz = sz + n * sz := by rw [Nat.succ_mul, Nat.add_comm]
    simp only [chunk, List.flatten_cons]
    rw [chunk_flatten sz n (cs.drop sz) (by simp; omega), e, List.take_add]

theorem Rel.drew {c : Cx} {H : Heap} (hR : Rel c H) : Rel { c with w := c.w.drew } H ∧ Tr c H { c with w := c.w.drew } H :=
  hR.step (fun _ => False) (fun _ h => h.elim) (fun _ _ h => h) rfl rfl (Nat.le_refl _) (fun _ _ _ => rfl) (fun _ _ _ h => h) rfl rfl rfl
    (fun _ b blk hb => by obtain ⟨B, base, h1, _⟩ := hR.blk b blk hb; exact .inl ⟨hb, B, base, h1, fun h => h⟩) hR.inj hR.fresh

theorem run_append_grow' {t u e : TypeId} {ty : TypeId} {i : TypeInfo} {z : Value} (ht : P.underlying t = some (.slice e)) (hu : ∃ d, P.underlying u = some d ∧ ∀ k, d ≠ .int k) (hi : P.info? e = some i) (hz : i.zero = some z)
    {base : Option Addr} {sLen sCap n : Nat} {x : Value} {w : World} {old new : Array Value} (hx : (Builtin.lenOf x).run P w = .ok n w)
    (hold : (Builtin.firstCells i.size sLen (.slice base sLen sCap)).run P w.drew = .ok old w.drew) (hnew : (Builtin.firstCells i.size n x).run P w.drew = .ok new w.drew)
    (hlt : sCap < sLen + n) (hb : (sLen + n) * i.bytes ≤ 140737488355328) (hb0 : i.bytes ≠ 0) :
    ∃ k, sLen + n ≤ k ∧ (Builtin.append_ #[t, u] ty #[.slice base sLen sCap, x]).run P w = .ok (.slice (some ⟨w.heap.size, 0, none⟩) (sLen + n) k) (w.drew.alloc (.cells (old ++ new ++ Builtin.zeroCells z.cells (k - (sLen + n))) e)) := by
  obtain ⟨d, hd, hdi⟩ := hu
  have hq : (Question.appendCap (sLen + n) sCap e).forced = false := rfl
  refine ⟨(Question.appendCap (sLen + n) sCap e).cut (w.tape w.drawn (.appendCap (sLen + n) sCap e)), Nat.le_add_right _ _, ?_⟩
  have hnd : (match d with | .int _ => true | _ => false) = false := by
    cases d <;> first | rfl | exact absurd rfl (hdi _)
  have hfit := growslice_fits hlt hb
  have h48 : (2 : Nat) ^ 48 = 281474976710656 := by decide
  unfold Builtin.append_
  simp only [List.getElem?_toArray, List.getElem?_cons_zero, List.getElem?_cons_succ, Sem.run_bind, run_underlying ht, Result.andThen_ok, sizeOf, run_typeInfo hi, Sem.run_pure, run_underlying hd]
  cases d <;> first
    | (exact absurd rfl (hdi _))
    | (simp only [Sem.run_bind, hx, Result.andThen_ok, Bool.false_eq_true, if_false]
       rw [if_neg (show ¬ (sLen + n ≤ sCap) by omega)]
       simp only [Sem.run_bind, Result.andThen_ok, run_typeInfo hi]
       rw [if_neg (by simp [hb0])]
       simp only [Sem.run_bind, Result.andThen_ok, run_typeInfo hi]
       rw [if_neg (show ¬ (Builtin.nextslicecap (sLen + n) sCap * i.bytes > 2 ^ 48) by rw [h48]; omega)]
       simp only [Sem.run_bind, run_choose, hq, Bool.false_eq_true, if_false, Result.andThen_ok, run_askRoom, World.drew_eq, run_typeInfo hi, hold, hnew, Bool.not_false, if_true, zeroValue, hz, Sem.run_pure, newRow, run_newObj, World.alloc_eq]
       rfl)

theorem run_append_room' {t u e : TypeId} {ty : TypeId} {i : TypeInfo} (ht : P.underlying t = some (.slice e)) (hu : ∃ d, P.underlying u = some d ∧ ∀ k, d ≠ .int k) (hi : P.info? e = some i)
    {base : Option Addr} {sLen sCap n : Nat} {x : Value} {w w' : World} {new : Array Value} (hx : (Builtin.lenOf x).run P w = .ok n w) (hnew : (Builtin.firstCells i.size n x).run P w = .ok new w)
    (hle : sLen + n ≤ sCap) (hst : match base with | none => w' = w | some a => (storeCells (a.add (sLen * i.size)) new.toList).run P w = .ok () w') :
    (Builtin.append_ #[t, u] ty #[.slice base sLen sCap, x]).run P w = .ok (.slice base (sLen + n) sCap) w' := by
  obtain ⟨d, hd, hdi⟩ := hu
  unfold Builtin.append_
  simp only [List.getElem?_toArray, List.getElem?_cons_zero, List.getElem?_cons_succ, Sem.run_bind, run_underlying ht, Result.andThen_ok, sizeOf, run_typeInfo hi, Sem.run_pure, run_underlying hd]
  cases d <;> first
    | (exact absurd rfl (hdi _))
    | (simp only [Sem.run_bind, hx, Result.andThen_ok, Bool.false_eq_true, if_false]
       rw [if_pos hle]
       simp only [Sem.run_bind, Bool.not_false, if_true, hnew, Result.andThen_ok]
       cases base with
       | none => subst hst; rfl
       | some a => simp only [Sem.run_bind, hst, Result.andThen_ok, Sem.run_pure])

theorem At_nil (w : World) (B o : Nat) : At w B o [] := fun j v hj => by simp at hj

theorem splice_nil (cs : List AVal) (off : Nat) : splice cs off [] = cs := by simp [splice]

theorem zeroCells_size (z : Array Value) (n : Nat) : (Builtin.zeroCells z n).size = n * z.size := by simp [Builtin.zeroCells]

/-- A new row that is longer than what is known of it. -/
theorem newCells_more {c : Cx} {b : Nat} {arr rest : Array Value} {t : TypeId} {cs : List AVal} (hE : Ext c (c.put b c.w.heap.size 0 (c.w.alloc (.cells (arr ++ rest) t)))) (hv : Vs c cs arr.toList) :
    BlkRel (c.put b c.w.heap.size 0 (c.w.alloc (.cells (arr ++ rest) t))) c.w.heap.size 0 (.cells cs) ∧ Room (c.w.alloc (.cells (arr ++ rest) t)) c.w.heap.size (arr.size + rest.size) := by
  have hs : (c.w.alloc (.cells (arr ++ rest) t)).shape? c.w.heap.size = some (t, (arr ++ rest).size) := by
    have : (c.w.alloc (.cells (arr ++ rest) t)).heap[c.w.heap.size]? = some (.cells (arr ++ rest) t) := by
      show (c.w.heap.push _)[c.w.heap.size]? = _
      simp
    simp only [World.shape?]
    rw [this]
  have hl := Vs_length hv
  simp only [Array.length_toList] at hl
  refine ⟨⟨fun off _ => World.frozen?_alloc_new _ _ _ _, ⟨t, _, hs, by simp; omega⟩, arr.toList, fun j v hj => ?_, Vs_ext hE _ _ hv⟩, ⟨t, _, hs, by simp⟩⟩
  simp only [Cx.put, Nat.zero_add, World.cell?_alloc_new]
  have hj' : arr[j]? = some v := by simpa using hj
  have hlt : j < arr.size := by
    rcases Nat.lt_or_ge j arr.size with h | h
    · exact h
    · rw [Array.getElem?_eq_none h] at hj'; cases hj'
  rw [Array.getElem?_append_left hlt]
  exact hj'

theorem appendA_sim {c : Cx} {H : Heap} (hR : Rel c H) {lo : Nat} {t u : TypeId} {ty : TypeId} {sa xa r : AVal} {H' : Heap} {s x : Value} (h : appendA P lo t u H sa xa = some (r, H')) (hs : V c sa s) (hx : V c xa x) :
    ∃ c' v, Rel c' H' ∧ Tr c H c' H' ∧ Low lo c H c' H' ∧ V c' r v ∧ (Builtin.append_ #[t, u] ty #[s, x]).run P c.w = .ok v c'.w := by
  unfold appendA at h
  split at h
  case h_2 => cases h
  rename_i e hd
  simp only at h
  split at h
  case isFalse => cases h
  rename_i hc
  obtain ⟨hinfo, hsz, hu, hz, hb0⟩ := hc
  have hu' : ∃ d, P.underlying u = some d ∧ ∀ k, d ≠ .int k := by
    unfold notIntB at hu
    cases hU : P.underlying u with
    | none => rw [hU] at hu; simp at hu
    | some d =>
      refine ⟨d, rfl, fun k hk => ?_⟩
      subst hk
      rw [hU] at hu
      simp at hu
  obtain ⟨i, hi⟩ := Option.isSome_iff_exists.1 hinfo
  have hsi : szOf P e = i.size := by simp [szOf, Program.cellsOf, hi]
  have hbi : P.bytesOf e = i.bytes := by simp [Program.bytesOf, hi]
  rw [hbi] at hb0 h
  have hzz : ∃ z, i.zero = some z ∧ z.cells.size = i.size := by
    unfold zeroFits at hz
    split at hz
    · rename_i za hza
      simp only [Bool.and_eq_true, beq_iff_eq] at hz
      obtain ⟨zv, h1, h2⟩ := run_zeroValue (c := c) hza c.w
      have hl := Vs_length (cells_Vs h2 hz.2)
      have : i.zero = some zv := by
        simp only [zeroValue, Sem.run_bind, run_typeInfo hi, Result.andThen_ok] at h1
        cases hzi : i.zero with
        | none => rw [hzi] at h1; simp at h1
        | some y => rw [hzi] at h1; simp at h1; rw [h1]
      refine ⟨zv, this, ?_⟩
      simp only [Array.length_toList] at hl
      omega
    · cases hz
  obtain ⟨z, hz1, hz2⟩ := hzz
  rw [hsi] at h hsz
  split at h
  case h_1 => cases h
  rename_i rows hrows
  split at h
  case isTrue => cases h
  rename_i hone
  have hone : rows.flatten.all AVal.one = true := by simpa using hone
  obtain ⟨hlen, new, hnew, hnv, hns⟩ := rowsA_sim (P := P) hR hrows hx
  have hvl := Vs_length hnv
  simp only [Array.length_toList] at hvl
  -- an append that grows
  have grow : ∀ (base : Option Addr) (sLen sCap : Nat) (csOld : List AVal) (old : Array Value), s = .slice base sLen sCap → Vs c csOld old.toList →
      (∀ w, w.heap = c.w.heap → (Builtin.firstCells i.size sLen (.slice base sLen sCap)).run P w = .ok old w) → old.size = sLen * i.size → sCap < sLen + rows.length → (sLen + rows.length) * i.bytes ≤ 140737488355328 →
      ∀ (H1 : Heap), Rel { c with w := c.w.drew } H1 → Tr c H { c with w := c.w.drew } H1 → Low lo c H { c with w := c.w.drew } H1 → H1.length = H.length →
      ∃ c' v, Rel c' (H1 ++ [some (.cells (csOld ++ rows.flatten))]) ∧ Tr c H c' (H1 ++ [some (.cells (csOld ++ rows.flatten))]) ∧ Low lo c H c' (H1 ++ [some (.cells (csOld ++ rows.flatten))]) ∧ V c' (.sl i.size H.length 0 (sLen + rows.length) (sLen + rows.length) false) v ∧
        (Builtin.append_ #[t, u] ty #[s, x]).run P c.w = .ok v c'.w := by
    intro base sLen sCap csOld old hs0 hov hold hos hlt hfit H1 hR1 hT1 hL1 hl1
    subst hs0
    obtain ⟨k, hk, hrun⟩ := run_append_grow' (ty := ty) hd hu' hi hz1 (w := c.w) (hlen c.w) (hold _ rfl) (hnew _ rfl) hlt hfit hb0
    have hov' := V_ext hT1.ext
    have hnv' := Vs_append (Vs_ext hT1.ext _ _ hov) (Vs_ext hT1.ext _ _ hnv)
    have hnv'' : Vs { c with w := c.w.drew } (csOld ++ rows.flatten) (old ++ new).toList := by simpa using hnv'
    have hadd := hR1.add (H' := H1 ++ [some (.cells (csOld ++ rows.flatten))]) H1.length (.cells (old ++ new ++ Builtin.zeroCells z.cells (k - (sLen + rows.length))) e) (.cells (csOld ++ rows.flatten))
      (hR1.fresh _ (Nat.le_refl _)) (by simp) (by simp) (by
        intro x y hxy
        rcases Nat.lt_or_ge x H1.length with h1 | h1
        · rw [List.getElem?_append_left h1] at hxy
          exact .inr ⟨by omega, hxy⟩
        · rw [List.getElem?_append_right h1] at hxy
          rcases Nat.eq_or_lt_of_le h1 with h2 | h2
          · rw [← h2] at hxy
            simp at hxy
            exact .inl ⟨h2.symm, hxy.symm⟩
          · rw [List.getElem?_eq_none (by simp; omega)] at hxy
            cases hxy) (fun hE => (newCells_more hE hnv'').1)
    refine ⟨_, .slice (some ⟨c.w.heap.size, 0, none⟩) (sLen + rows.length) k, hadd.1, hT1.trans hadd.2, hL1.trans hT1.ext (hR1.add_low lo _ _ (Nat.le_refl _) (by simp) fun x y hxy => by rw [List.getElem?_append_left]; exact hxy; rcases Nat.lt_or_ge x H1.length with h | h; exact h; rw [List.getElem?_eq_none h] at hxy; cases hxy), ?_, hrun⟩
    have hroom := (newCells_more (hadd.2.ext) hnv'').2
    simp only [V]
    refine ⟨c.w.heap.size, 0, k, 0, ?_, rfl, fun _ => rfl, Nat.le_refl _, hk, (fun h => by cases h), ?_⟩
    · rw [← hl1]
      exact put_ι _ _ _ _ _
    · refine hroom.mono ?_
      rw [zeroCells_size, hz2, Array.size_append, hos, hns, ← Nat.add_mul, ← Nat.add_mul]
      have : sLen + rows.length + (k - (sLen + rows.length)) = k := by omega
      rw [this]
      simp
  split at h
  · -- nil
    simp only [V] at hs
    subst hs
    split at h
    · rename_i h0
      simp only [Option.some.injEq, Prod.mk.injEq] at h
      obtain ⟨rfl, rfl⟩ := h
      have hn0 : rows.length = 0 := h0
      refine ⟨c, .slice none 0 0, hR, Tr.refl _ _, Low.refl _ _ _, by simp [V], ?_⟩
      have := run_append_room' (ty := ty) (w' := c.w) hd hu' hi (base := none) (sLen := 0) (sCap := 0) (hlen c.w) (hnew c.w rfl) (by omega) rfl
      rw [hn0] at this
      exact this
    · rename_i h0
      split at h
      · rename_i hfit
        simp only [Option.some.injEq, Prod.mk.injEq] at h
        obtain ⟨rfl, rfl⟩ := h
        obtain ⟨c', v, h1, h2, h2', h3, h4⟩ := grow none 0 0 [] #[] rfl (by simp [Vs]) (fun _ _ => by simp [Builtin.firstCells]) (by simp) (by omega) (by simpa using hfit) H hR.drew.1 hR.drew.2 ⟨fun _ _ _ h => ⟨h, fun _ _ _ => rfl⟩, fun _ _ h => h, Nat.le_refl _⟩ rfl
        simp only [Nat.zero_add, List.nil_append] at h1 h2 h2' h3
        exact ⟨c', v, h1, h2, h2', h3, h4⟩
      · cases h
  · -- a list
    rename_i s0 rs ex
    split at h
    · cases h
    rename_i hs0
    have hs0 : s0 = i.size := Decidable.of_not_not hs0
    subst hs0
    have hrs : rowsA H i.size (.list i.size rs ex) = some rs := by simp [rowsA]
    obtain ⟨hlen2, old, hold, hov, hos⟩ := rowsA_sim (P := P) hR hrs hs
    have hs' := hs
    simp only [V] at hs
    obtain ⟨B, off, cap, vs, rfl, hcap, hex, hI, ha, hvs⟩ := hs
    split at h
    · rename_i h0
      simp only [Option.some.injEq, Prod.mk.injEq] at h
      obtain ⟨rfl, rfl⟩ := h
      have hn0 : rows.length = 0 := h0
      have hnew0 : new.toList = [] := by
        have : new.size = 0 := by rw [hns, hn0]; simp
        simpa using this
      refine ⟨c, _, hR, Tr.refl _ _, Low.refl _ _ _, hs', ?_⟩
      have := run_append_room' (ty := ty) (w' := c.w) hd hu' hi (base := some ⟨B, off, none⟩) (sLen := rs.length) (sCap := cap) (hlen c.w) (hnew c.w rfl) (by omega) (by rw [hnew0]; rfl)
      rw [hn0] at this
      exact this
    · rename_i h0
      split at h
      · rename_i hcc
        obtain ⟨hx1, hall, hfit⟩ := hcc
        simp only [Option.some.injEq, Prod.mk.injEq] at h
        obtain ⟨rfl, rfl⟩ := h
        have := hex hx1
        subst this
        exact grow _ _ _ rs.flatten old rfl hov hold hos (by omega) hfit H hR.drew.1 hR.drew.2 ⟨fun _ _ _ h => ⟨h, fun _ _ _ => rfl⟩, fun _ _ h => h, Nat.le_refl _⟩ rfl
      · cases h
  · -- a slice of one's own
    rename_i s0 b off len cap ex
    split at h
    · cases h
    rename_i hs0
    have hs0 : s0 = i.size := Decidable.of_not_not hs0
    subst hs0
    split at h
    case h_2 => cases h
    rename_i cs hb
    split at h
    case isFalse => cases h
    rename_i hle
    have hrs : rowsA H i.size (.sl i.size b off len cap ex) = some (chunk i.size len (cs.drop off)) := by simp [rowsA, hb, hle]
    obtain ⟨hlen2, old, hold, hov, hos⟩ := rowsA_sim (P := P) hR hrs hs
    rw [chunk_length] at hold hos
    rw [chunk_flatten _ _ _ (by simp; omega)] at hov
    have hs' := hs
    simp only [V] at hs
    obtain ⟨B, base, k, o, hi', rfl, ho, h1, h2, h3, h4⟩ := hs
    obtain ⟨B0, base0, h5, _, _, hf, hroom, _⟩ := hR.blk b _ hb
    rw [hi'] at h5
    simp only [Option.some.injEq, Prod.mk.injEq] at h5
    obtain ⟨rfl, rfl⟩ := h5
    -- an append in its place
    have inplace : len + rows.length ≤ k → ∃ w', (Builtin.append_ #[t, u] ty #[.slice (some ⟨B, o, none⟩) len k, x]).run P c.w = .ok (.slice (some ⟨B, o, none⟩) (len + rows.length) k) w' ∧
        ((0 < rows.length ∧ Wrote c.w w' B (base + (off + len * i.size)) new.toList) ∨ (rows.length = 0 ∧ w' = c.w)) := by
      intro hle2
      by_cases hn : rows.length = 0
      · have hnew0 : new.toList = [] := by
          have : new.size = 0 := by rw [hns, hn]; simp
          simpa using this
        have := run_append_room' (ty := ty) (w' := c.w) hd hu' hi (base := some ⟨B, o, none⟩) (sLen := len) (sCap := k) (hlen c.w) (hnew c.w rfl) (by omega) (by rw [hnew0]; rfl)
        exact ⟨c.w, this, .inr ⟨hn, rfl⟩⟩
      · have ho' := ho (by omega)
        subst ho'
        have hmul : len * i.size + rows.length * i.size ≤ k * i.size := by rw [← Nat.add_mul]; exact Nat.mul_le_mul_right _ hle2
        obtain ⟨w', hst, hw⟩ := run_stores (P := P) B new.toList (base + off + len * i.size) 0 c.w (h4.mono (by simp only [Array.length_toList, hns]; omega)) hf (ones_of_Vs hnv hone)
        refine ⟨w', run_append_room' (ty := ty) hd hu' hi (hlen c.w) (hnew c.w rfl) hle2 (by simp only [add_plain]; exact hst), .inl ⟨by omega, ?_⟩⟩
        rw [show base + (off + len * i.size) = base + off + len * i.size + 0 by omega]
        exact hw
    split at h
    · rename_i hlc
      split at h
      · rename_i hin
        simp only [Option.some.injEq, Prod.mk.injEq] at h
        obtain ⟨rfl, rfl⟩ := h
        obtain ⟨w', hrun, hw⟩ := inplace (by omega)
        rcases hw with ⟨hpos, hw⟩ | ⟨h0, rfl⟩
        · have hmul : (len + rows.length) * i.size = len * i.size + rows.length * i.size := Nat.add_mul _ _ _
          obtain ⟨h6, h7⟩ := hR.write hb hi' hw hnv (by omega)
          refine ⟨_, _, h6, h7, hR.set_low hin.1 hb hi' hw.keep (fun x y hx hxy => by rw [List.getElem?_set, if_neg (fun e => hx e.symm)]; exact hxy) (fun _ _ h => h) (by simp), ?_, hrun⟩
          simp only [V]
          exact ⟨B, base, k, o, hi', rfl, ho, hlc, h2, h3, hw.room.2 h4⟩
        · have hf0 : rows.flatten = [] := by
            have : rows.flatten.length = 0 := by rw [hvl, hns, h0]; simp
            exact List.eq_nil_of_length_eq_zero this
          rw [hf0, splice_nil, h0]
          have hset : H.set b (some (.cells cs)) = H := by
            apply List.ext_getElem?
            intro j
            rw [List.getElem?_set]
            split
            · rename_i hj
              subst hj
              split
              · exact hb.symm
              · rename_i hn; rw [List.getElem?_eq_none (by omega)] at hb; cases hb
            · rfl
          rw [hset]
          rw [h0] at hrun
          exact ⟨c, _, hR, Tr.refl _ _, Low.refl _ _ _, hs', hrun⟩
      · cases h
    · rename_i hlc
      split at h
      case isFalse => cases h
      rename_i hfit
      split at h
      · rename_i hx1
        simp only [Option.some.injEq, Prod.mk.injEq] at h
        obtain ⟨rfl, rfl⟩ := h
        have := h3 hx1
        exact grow _ _ _ _ old rfl hov hold hos (by omega) hfit H hR.drew.1 hR.drew.2 ⟨fun _ _ _ h => ⟨h, fun _ _ _ => rfl⟩, fun _ _ h => h, Nat.le_refl _⟩ rfl
      · rename_i hx1
        split at h
        case isFalse => cases h
        rename_i hend
        simp only [Option.some.injEq, Prod.mk.injEq] at h
        obtain ⟨rfl, rfl⟩ := h
        have htake : (cs.drop off).take (len * i.size) = cs.drop off := List.take_of_length_le (by simp; omega)
        rw [htake] at hov
        by_cases hk : len + rows.length ≤ k
        · obtain ⟨w', hrun, hw⟩ := inplace hk
          rcases hw with ⟨hpos, hw⟩ | ⟨h0, _⟩
          · have ho' := ho (by omega)
            subst ho'
            obtain ⟨_, _, _, _, _, _, _, vs, ha, hvs⟩ := hR.blk b _ hb
            rename_i hBx _ _ _ _
            rw [hi'] at hBx
            simp only [Option.some.injEq, Prod.mk.injEq] at hBx
            obtain ⟨rfl, rfl⟩ := hBx
            have hl2 := Vs_length hvs
            have hmul : len * i.size + rows.length * i.size ≤ k * i.size := by rw [← Nat.add_mul]; exact Nat.mul_le_mul_right _ hk
            have hren := hR.renew (base' := base + off) (blk' := .cells (cs.drop off ++ rows.flatten)) hb hi' w' hw.size hw.keep (fun X t n h => by rw [hw.shape]; exact h) hw.os hw.tape hw.output (fun hE => by
              refine ⟨?_, ?_, vs.drop off ++ new.toList, ?_, ?_⟩
              · intro q hr
                show w'.frozen? _ = false
                rw [hw.frozen]
                exact hf q (hw.room.1 hr)
              · refine hw.room.2 (h4.mono ?_)
                rw [List.length_append, List.length_drop, hvl, hns]
                omega
              · show At w' B (base + off) _
                intro j v hj
                rcases Nat.lt_or_ge j (vs.drop off).length with hj1 | hj1
                · rw [List.getElem?_append_left hj1] at hj
                  rw [hw.old _ (.inl (by simp at hj1; omega))]
                  exact At_drop off ha j v hj
                · rw [List.getElem?_append_right hj1] at hj
                  have := hw.new _ v hj
                  simp only [List.length_drop] at this hj1
                  rw [show base + (off + len * i.size) + (j - (vs.length - off)) = base + off + j by omega] at this
                  exact this
              · exact Vs_append (Vs_drop _ (Vs_ext hE _ _ hvs)) (Vs_ext hE _ _ hnv))
            refine ⟨_, _, hren.1, hren.2, hR.set_low hend.1 hb hi' hw.keep (fun x y hx hxy => by
              have hxl : x < H.length := by
                rcases Nat.lt_or_ge x H.length with h | h
                · exact h
                · rw [List.getElem?_eq_none h] at hxy; cases hxy
              rw [List.getElem?_append_left (by simpa using hxl), List.getElem?_set, if_neg (fun e => hx e.symm)]
              exact hxy) (fun x hx h => by simp only [Cx.put]; rw [if_neg (by omega)]; exact h) (by simp), ?_, hrun⟩
            simp only [V]
            refine ⟨B, base + off, k, base + off, put_ι _ _ _ _ _, rfl, fun _ => rfl, Nat.le_refl _, hk, (fun h => by cases h), ?_⟩
            exact hw.room.2 (h4.mono (by omega))
          · omega
        · have hdrop := hR.drop b
          have hdr := hdrop.1.drew
          exact grow _ _ _ _ old rfl hov hold hos (by omega) hfit (H.set b none) hdr.1 (hdrop.2.trans hdr.2)
            (hR.set_low hend.1 hb hi' (fun _ _ => rfl) (fun x y hx hxy => by rw [List.getElem?_set, if_neg (fun e => hx e.symm)]; exact hxy) (fun _ _ h => h) (by simp)) (by simp)
  · cases h

end Go.Am

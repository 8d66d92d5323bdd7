/- Library, part 2: AmSim7, AmExec, AmExecSim, AmLow, AmDraw, AmDraw2, AmDraw3, AmDraw4, AmDraw5, AmRun, AmTop, AmMono, AmWp, AmLaid, AmData. General texts of the author of this claim: an idealised machine and a symbolic one, both proved sound over the model. -/
import Derived.Laws.IdiomStrings
import Derived.Orders
import Derived.ProofKit
import Derived.OpenShut
import Derived.LaidLaws
import Derived.LaidHandle
import Derived.Test.YtlninpcoolakbaaGreatDoorLib1
set_option linter.unusedVariables false
set_option linter.unusedSimpArgs false
/- That the model's operations keep to the idealised ones: append. Generic: over any program. -/
namespace Go.Am
open Go.RowKit
variable {P : Program}
theorem Vs_flat {c : Cx} {sz : Nat} : ∀ {rows : List (List AVal)} {vs : List Value}, Vss c sz rows vs → Vs c rows.flatten vs
  | [], _, h => by simp [Vss] at h; subst h; simp [Vs]
  | r :: rows, _, h => by
    simp only [Vss] at h
    obtain ⟨us, ws, rfl, _, h1, h2⟩ := h
    simp only [List.flatten_cons]
    exact Vs_append h1 (Vs_flat h2)
theorem loadCells_At {w : World} {B o : Nat} {vs : List Value} (h : At w B o vs) : (loadCells ⟨B, o, none⟩ vs.length).run P w = .ok vs.toArray w :=
  run_loadCells_list w ⟨B, o, none⟩ vs fun j v hj => by rw [add_plain]; exact h j v hj
theorem rowsA_sim {c : Cx} {H : Heap} (hR : Rel c H) {sz : Nat} {x : AVal} {rows : List (List AVal)} {v : Value} (h : rowsA H sz x = some rows) (hv : V c x v) :
    (∀ w, (Builtin.lenOf v).run P w = .ok rows.length w) ∧ ∃ arr, (∀ w, w.heap = c.w.heap → (Builtin.firstCells sz rows.length v).run P w = .ok arr w) ∧ Vs c rows.flatten arr.toList ∧ arr.size = rows.length * sz := by
  unfold rowsA at h
  split at h
  · simp only [Option.some.injEq] at h
    subst h
    simp only [V] at hv
    subst hv
    exact ⟨fun _ => rfl, #[], fun _ _ => by simp [Builtin.firstCells], by simp [Vs], by simp⟩
  · rename_i s rws ex
    split at h
    · rename_i hs
      subst hs
      simp only [Option.some.injEq] at h
      subst h
      simp only [V] at hv
      obtain ⟨a, cap, vs, rfl, _, _, hm, hvs⟩ := hv
      have hl := Vss_length hvs
      refine ⟨fun _ => rfl, vs.toArray, fun w hw => ?_, Vs_ext (Ext.of_pure c) _ _ (Vs_flat hvs), by simp [hl]⟩
      rcases hm with hm | ⟨hsp, _, ha⟩
      · subst hm
        have hv0 : vs = [] := by simpa [Vss] using hvs
        subst hv0
        simp [Builtin.firstCells, loadCells, loadCellsFrom]
      · obtain ⟨B, off, sp⟩ := a
        simp only at hsp ha
        subst hsp
        have := loadCells_At (P := P) (w := w) (ha.of_block (by rw [hw]))
        rw [hl] at this
        simp [Builtin.firstCells, this]
    · cases h
  · rename_i s
    split at h
    · rename_i hs
      subst hs
      simp only [Option.some.injEq] at h
      subst h
      simp only [V] at hv
      obtain ⟨t, rfl, rfl⟩ := hv
      have hl : (t.data.toList.map fun b => [AVal.int .u8 b.toNat]).length = t.size := by
        simp only [List.length_map, Array.length_toList]
        rfl
      rw [hl]
      refine ⟨fun _ => rfl, (t.extract 0 t.size).data.map (fun b => .int .u8 b.toNat), fun _ _ => by simp [Builtin.firstCells], ?_, ?_⟩
      · have e : (t.extract 0 t.size).data = t.data := by simp
        rw [e, Array.toList_map]
        generalize t.data.toList = l
        induction l with
        | nil => simp [Vs]
        | cons b l ih =>
          simp only [List.map_cons, List.flatten_cons, List.cons_append, List.nil_append, Vs]
          exact ⟨_, _, rfl, by simp [V], ih⟩
      · have e : (t.extract 0 t.size).data = t.data := by simp
        rw [e, Array.size_map, Nat.mul_one]
        rfl
    · cases h
  · rename_i s b off len cap ex
    split at h
    · rename_i hs
      subst hs
      split at h
      · rename_i cs hb
        split at h
        · rename_i hle
          simp only [Option.some.injEq] at h
          subst h
          simp only [V] at hv
          obtain ⟨B, base, k, o, hi, rfl, ho, h1, h2, _, _⟩ := hv
          obtain ⟨B0, base0, h3, _, _, _, _, vs, ha, hvs⟩ := hR.blk b _ hb
          rw [hi] at h3
          simp only [Option.some.injEq, Prod.mk.injEq] at h3
          obtain ⟨rfl, rfl⟩ := h3
          have hl := Vs_length hvs
          have hch := chunk_Vss (sz := s) len (Vs_drop off hvs) (by simp; omega)
          rw [chunk_length]
          have hvl := Vss_length hch
          rw [chunk_length] at hvl
          refine ⟨fun _ => rfl, ((vs.drop off).take (len * s)).toArray, fun w hw => ?_, Vs_flat hch, by simpa using hvl⟩
          by_cases hk : 0 < k
          · have ho' := ho hk
            subst ho'
            have := loadCells_At (P := P) (w := w) ((At_take (len * s) (At_drop off ha)).of_block (by rw [hw]))
            rw [hvl] at this
            simp [Builtin.firstCells, this]
          · have hl0 : len = 0 := by omega
            subst hl0
            simp [Builtin.firstCells, loadCells, loadCellsFrom]
        · cases h
      · cases h
    · cases h
  · cases h
theorem chunk_flatten (sz : Nat) : ∀ (n : Nat) (cs : List AVal), n * sz ≤ cs.length → (chunk sz n cs).flatten = cs.take (n * sz)
  | 0, cs, _ => by simp [chunk]
  | n + 1, cs, h => by
    have e : (n + 1) * sz = sz + n * sz := by rw [Nat.succ_mul, Nat.add_comm]
    simp only [chunk, List.flatten_cons]
    rw [chunk_flatten sz n (cs.drop sz) (by simp; omega), e, List.take_add]
theorem Rel.drew {c : Cx} {H : Heap} (hR : Rel c H) : Rel { c with w := c.w.drew } H ∧ Tr c H { c with w := c.w.drew } H :=
  hR.step (fun _ => False) (fun _ h => h.elim) (fun _ _ h => h) rfl rfl (Nat.le_refl _) (fun _ _ _ => rfl) (fun _ _ _ h => h) rfl rfl rfl
    (fun _ b blk hb => by obtain ⟨B, base, h1, _⟩ := hR.blk b blk hb; exact .inl ⟨hb, B, base, h1, fun h => h⟩) hR.inj hR.fresh
theorem run_append_grow' {t u e : TypeId} {ty : TypeId} {i : TypeInfo} {z : Value} (ht : P.underlying t = some (.slice e)) (hu : ∃ d, P.underlying u = some d ∧ ∀ k, d ≠ .int k) (hi : P.info? e = some i) (hz : i.zero = some z)
    {base : Option Addr} {sLen sCap n : Nat} {x : Value} {w : World} {old new : Array Value} (hx : (Builtin.lenOf x).run P w = .ok n w)
    (hold : (Builtin.firstCells i.size sLen (.slice base sLen sCap)).run P w.drew = .ok old w.drew) (hnew : (Builtin.firstCells i.size n x).run P w.drew = .ok new w.drew)
    (hlt : sCap < sLen + n) (hb : (sLen + n) * i.bytes ≤ 140737488355328) (hb0 : i.bytes ≠ 0) :
    ∃ k, sLen + n ≤ k ∧ (Builtin.append_ #[t, u] ty #[.slice base sLen sCap, x]).run P w = .ok (.slice (some ⟨w.heap.size, 0, none⟩) (sLen + n) k) (w.drew.alloc (.cells (old ++ new ++ Builtin.zeroCells z.cells (k - (sLen + n))) e)) := by
  obtain ⟨d, hd, hdi⟩ := hu
  have hq : (Question.appendCap (sLen + n) sCap e).forced = false := rfl
  refine ⟨(Question.appendCap (sLen + n) sCap e).cut (w.tape w.drawn (.appendCap (sLen + n) sCap e)), Nat.le_add_right _ _, ?_⟩
  have hnd : (match d with | .int _ => true | _ => false) = false := by
    cases d <;> first | rfl | exact absurd rfl (hdi _)
  have hfit := growslice_fits hlt hb
  have h48 : (2 : Nat) ^ 48 = 281474976710656 := by decide
  unfold Builtin.append_
  simp only [List.getElem?_toArray, List.getElem?_cons_zero, List.getElem?_cons_succ, Sem.run_bind, run_underlying ht, Result.andThen_ok, sizeOf, run_typeInfo hi, Sem.run_pure, run_underlying hd]
  cases d <;> first
    | (exact absurd rfl (hdi _))
    | (simp only [Sem.run_bind, hx, Result.andThen_ok, Bool.false_eq_true, if_false]
       rw [if_neg (show ¬ (sLen + n ≤ sCap) by omega)]
       simp only [Sem.run_bind, Result.andThen_ok, run_typeInfo hi]
       rw [if_neg (by simp [hb0])]
       simp only [Sem.run_bind, Result.andThen_ok, run_typeInfo hi]
       rw [if_neg (show ¬ (Builtin.nextslicecap (sLen + n) sCap * i.bytes > 2 ^ 48) by rw [h48]; omega)]
       simp only [Sem.run_bind, run_choose, hq, Bool.false_eq_true, if_false, Result.andThen_ok, run_askRoom, World.drew_eq, run_typeInfo hi, hold, hnew, Bool.not_false, if_true, zeroValue, hz, Sem.run_pure, newRow, run_newObj, World.alloc_eq]
       rfl)
theorem run_append_room' {t u e : TypeId} {ty : TypeId} {i : TypeInfo} (ht : P.underlying t = some (.slice e)) (hu : ∃ d, P.underlying u = some d ∧ ∀ k, d ≠ .int k) (hi : P.info? e = some i)
    {base : Option Addr} {sLen sCap n : Nat} {x : Value} {w w' : World} {new : Array Value} (hx : (Builtin.lenOf x).run P w = .ok n w) (hnew : (Builtin.firstCells i.size n x).run P w = .ok new w)
    (hle : sLen + n ≤ sCap) (hst : match base with | none => w' = w | some a => (storeCells (a.add (sLen * i.size)) new.toList).run P w = .ok () w') :
    (Builtin.append_ #[t, u] ty #[.slice base sLen sCap, x]).run P w = .ok (.slice base (sLen + n) sCap) w' := by
  obtain ⟨d, hd, hdi⟩ := hu
  unfold Builtin.append_
  simp only [List.getElem?_toArray, List.getElem?_cons_zero, List.getElem?_cons_succ, Sem.run_bind, run_underlying ht, Result.andThen_ok, sizeOf, run_typeInfo hi, Sem.run_pure, run_underlying hd]
  cases d <;> first
    | (exact absurd rfl (hdi _))
    | (simp only [Sem.run_bind, hx, Result.andThen_ok, Bool.false_eq_true, if_false]
       rw [if_pos hle]
       simp only [Sem.run_bind, Bool.not_false, if_true, hnew, Result.andThen_ok]
       cases base with
       | none => subst hst; rfl
       | some a => simp only [Sem.run_bind, hst, Result.andThen_ok, Sem.run_pure])
theorem splice_nil (cs : List AVal) (off : Nat) : splice cs off [] = cs := by simp [splice]
theorem zeroCells_size (z : Array Value) (n : Nat) : (Builtin.zeroCells z n).size = n * z.size := by simp [Builtin.zeroCells]
theorem newCells_more {c : Cx} {b : Nat} {arr rest : Array Value} {t : TypeId} {cs : List AVal} (hE : Ext c (c.put b c.w.heap.size 0 (c.w.alloc (.cells (arr ++ rest) t)))) (hv : Vs c cs arr.toList) :
    BlkRel (c.put b c.w.heap.size 0 (c.w.alloc (.cells (arr ++ rest) t))) c.w.heap.size 0 (.cells cs) ∧ Room (c.w.alloc (.cells (arr ++ rest) t)) c.w.heap.size (arr.size + rest.size) := by
  have hs : (c.w.alloc (.cells (arr ++ rest) t)).shape? c.w.heap.size = some (t, (arr ++ rest).size) := by
    have : (c.w.alloc (.cells (arr ++ rest) t)).heap[c.w.heap.size]? = some (.cells (arr ++ rest) t) := by
      show (c.w.heap.push _)[c.w.heap.size]? = _
      simp
    simp only [World.shape?]
    rw [this]
  have hl := Vs_length hv
  simp only [Array.length_toList] at hl
  refine ⟨⟨fun off _ => World.frozen?_alloc_new _ _ _ _, ⟨t, _, hs, by simp; omega⟩, arr.toList, fun j v hj => ?_, Vs_ext hE _ _ hv⟩, ⟨t, _, hs, by simp⟩⟩
  simp only [Cx.put, Nat.zero_add, World.cell?_alloc_new]
  have hj' : arr[j]? = some v := by simpa using hj
  have hlt : j < arr.size := by
    rcases Nat.lt_or_ge j arr.size with h | h
    · exact h
    · rw [Array.getElem?_eq_none h] at hj'; cases hj'
  rw [Array.getElem?_append_left hlt]
  exact hj'
theorem newCells_mark {c : Cx} {b : Nat} {arr rest : Array Value} {t : TypeId} {cs : List AVal} (hE : Ext c (c.put b c.w.heap.size 0 (c.w.alloc (.cells (arr ++ rest) t ((arr ++ rest).size, (arr ++ rest).size + 1))))) (hv : Vs c cs arr.toList) :
    BlkRel (c.put b c.w.heap.size 0 (c.w.alloc (.cells (arr ++ rest) t ((arr ++ rest).size, (arr ++ rest).size + 1)))) c.w.heap.size 0 (.cells cs) ∧ Room (c.w.alloc (.cells (arr ++ rest) t ((arr ++ rest).size, (arr ++ rest).size + 1))) c.w.heap.size (arr.size + rest.size) := by
  have hb : (c.w.alloc (.cells (arr ++ rest) t ((arr ++ rest).size, (arr ++ rest).size + 1))).heap[c.w.heap.size]? = some (.cells (arr ++ rest) t ((arr ++ rest).size, (arr ++ rest).size + 1)) := by
    show (c.w.heap.push _)[c.w.heap.size]? = _
    simp
  have hs : (c.w.alloc (.cells (arr ++ rest) t ((arr ++ rest).size, (arr ++ rest).size + 1))).shape? c.w.heap.size = some (t, (arr ++ rest).size) := by
    simp only [World.shape?]
    rw [hb]
  have hl := Vs_length hv
  simp only [Array.length_toList] at hl
  refine ⟨⟨fun off hr => ?_, ⟨t, _, hs, by simp; omega⟩, arr.toList, fun j v hj => ?_, Vs_ext hE _ _ hv⟩, ⟨t, _, hs, by simp⟩⟩
  · obtain ⟨t', m, h1, h2⟩ := hr
    have h1 : (c.w.alloc (.cells (arr ++ rest) t ((arr ++ rest).size, (arr ++ rest).size + 1))).shape? c.w.heap.size = some (t', m) := h1
    rw [hs] at h1
    simp only [Option.some.injEq, Prod.mk.injEq] at h1
    obtain ⟨_, rfl⟩ := h1
    show World.frozen? (c.w.alloc (.cells (arr ++ rest) t ((arr ++ rest).size, (arr ++ rest).size + 1))) ⟨c.w.heap.size, off, none⟩ = false
    unfold World.frozen?
    dsimp only
    rw [hb]
    simp only [Bool.and_eq_false_iff, decide_eq_false_iff_not]
    left
    omega
  · have hj' : arr[j]? = some v := by simpa using hj
    have hlt : j < arr.size := by
      rcases Nat.lt_or_ge j arr.size with h | h
      · exact h
      · rw [Array.getElem?_eq_none h] at hj'; cases hj'
    show World.cell? (c.w.alloc (.cells (arr ++ rest) t ((arr ++ rest).size, (arr ++ rest).size + 1))) ⟨c.w.heap.size, 0 + j, none⟩ = some v
    unfold World.cell?
    dsimp only
    rw [hb]
    simp only [Nat.zero_add, Option.isSome_none, Bool.false_eq_true, if_false]
    rw [Array.getElem?_append_left hlt]
    exact hj'
theorem bytes_Vs {c : Cx} : ∀ l : List UInt8, Vs c (l.map fun b => AVal.int .u8 b.toNat) (l.map fun b => Value.int .u8 b.toNat)
  | [] => by simp [Vs]
  | b :: l => by
    simp only [List.map_cons, Vs]
    exact ⟨_, _, rfl, by simp [V], bytes_Vs l⟩
theorem bytesA_sim {c : Cx} {H : Heap} (hR : Rel c H) {lo : Nat} {s d : TypeId} {xa r : AVal} {H' : Heap} {x : Value} (h : bytesA P s d H xa = some (r, H')) (hx : V c xa x) :
    ∃ c' v, Rel c' H' ∧ Tr c H c' H' ∧ Low lo c H c' H' ∧ V c' r v ∧ (convert s d x).run P c.w = .ok v c'.w := by
  unfold bytesA at h
  split at h
  · rename_i e t hs hd
    split at h
    · rename_i he
      simp only [Option.some.injEq, Prod.mk.injEq] at h
      obtain ⟨rfl, rfl⟩ := h
      simp only [V] at hx
      obtain ⟨ts, rfl, ht⟩ := hx
      have hrun := run_bytes_of_string (P := P) c.w s d e ts hs hd he
      have hk : ts.size ≤ grownCap c.w ts.size 0 e := by unfold grownCap; exact Nat.le_add_right _ _
      generalize grownCap c.w ts.size 0 e = k at hrun hk
      unfold bytesRow at hrun
      have hl : ts.size = t.length := by rw [← ht]; simp
      have hR1 := hR.drew.1
      have hT1 := hR.drew.2
      have hv : Vs { c with w := c.w.drew } (t.map fun b => AVal.int .u8 b.toNat) (ts.data.map fun b => Value.int .u8 b.toNat).toList := by
        rw [Array.toList_map, ht]
        exact bytes_Vs t
      have hsz : (ts.data.map fun b => Value.int .u8 b.toNat).size = ts.size := by simp
      have hrz : (Array.replicate (k - ts.size) (Value.int .u8 0)).size = k - ts.size := by simp
      generalize (ts.data.map fun b => Value.int .u8 b.toNat) = arr at hrun hv hsz
      generalize Array.replicate (k - ts.size) (Value.int .u8 0) = rest at hrun hrz
      have hadd := hR1.add (H' := H ++ [some (.cells (t.map fun b => .int .u8 b.toNat))]) H.length (.cells (arr ++ rest) e ((arr ++ rest).size, (arr ++ rest).size + 1)) (.cells (t.map fun b => .int .u8 b.toNat))
        (hR1.fresh _ (Nat.le_refl _)) (by simp) (by simp) (by
          intro x y hxy
          rcases Nat.lt_or_ge x H.length with h1 | h1
          · rw [List.getElem?_append_left h1] at hxy
            exact .inr ⟨by omega, hxy⟩
          · rw [List.getElem?_append_right h1] at hxy
            rcases Nat.eq_or_lt_of_le h1 with h2 | h2
            · rw [← h2] at hxy
              simp at hxy
              exact .inl ⟨h2.symm, hxy.symm⟩
            · rw [List.getElem?_eq_none (by simp; omega)] at hxy
              cases hxy) (fun hE => (newCells_mark hE hv).1)
      refine ⟨_, _, hadd.1, hT1.trans hadd.2, ?_, ?_, hrun⟩
      · refine Low.trans hT1.ext ⟨fun _ _ _ h => ⟨h, fun _ _ _ => rfl⟩, fun _ _ h => h, Nat.le_refl _⟩ (hR1.add_low lo _ _ (Nat.le_refl _) (by simp) fun x y hxy => ?_)
        rw [List.getElem?_append_left]
        · exact hxy
        · rcases Nat.lt_or_ge x H.length with h | h
          · exact h
          · rw [List.getElem?_eq_none h] at hxy; cases hxy
      · have hroom := (newCells_mark hadd.2.ext hv).2
        simp only [V]
        refine ⟨c.w.heap.size, 0, k, 0, put_ι _ _ _ _ _, ?_, fun _ => rfl, Nat.le_refl _, by omega, (fun h => by cases h), ?_⟩
        · rw [← hl]
        · refine hroom.mono ?_
          omega
    · cases h
  · cases h
theorem appendA_sim {c : Cx} {H : Heap} (hR : Rel c H) {lo : Nat} {t u : TypeId} {ty : TypeId} {sa xa r : AVal} {H' : Heap} {s x : Value} (h : appendA P lo t u H sa xa = some (r, H')) (hs : V c sa s) (hx : V c xa x) :
    ∃ c' v, Rel c' H' ∧ Tr c H c' H' ∧ Low lo c H c' H' ∧ V c' r v ∧ (Builtin.append_ #[t, u] ty #[s, x]).run P c.w = .ok v c'.w := by
  unfold appendA at h
  split at h
  case h_2 => cases h
  rename_i e hd
  simp only at h
  split at h
  case isFalse => cases h
  rename_i hc
  obtain ⟨hinfo, hsz, hu, hz, hb0⟩ := hc
  have hu' : ∃ d, P.underlying u = some d ∧ ∀ k, d ≠ .int k := by
    unfold notIntB at hu
    cases hU : P.underlying u with
    | none => rw [hU] at hu; simp at hu
    | some d =>
      refine ⟨d, rfl, fun k hk => ?_⟩
      subst hk
      rw [hU] at hu
      simp at hu
  obtain ⟨i, hi⟩ := Option.isSome_iff_exists.1 hinfo
  have hsi : szOf P e = i.size := by simp [szOf, Program.cellsOf, hi]
  have hbi : P.bytesOf e = i.bytes := by simp [Program.bytesOf, hi]
  rw [hbi] at hb0 h
  have hzz : ∃ z, i.zero = some z ∧ z.cells.size = i.size := by
    unfold zeroFits at hz
    split at hz
    · rename_i za hza
      simp only [Bool.and_eq_true, beq_iff_eq] at hz
      obtain ⟨zv, h1, h2⟩ := run_zeroValue (c := c) hza c.w
      have hl := Vs_length (cells_Vs h2 hz.2)
      have : i.zero = some zv := by
        simp only [zeroValue, Sem.run_bind, run_typeInfo hi, Result.andThen_ok] at h1
        cases hzi : i.zero with
        | none => rw [hzi] at h1; simp at h1
        | some y => rw [hzi] at h1; simp at h1; rw [h1]
      refine ⟨zv, this, ?_⟩
      simp only [Array.length_toList] at hl
      omega
    · cases hz
  obtain ⟨z, hz1, hz2⟩ := hzz
  rw [hsi] at h hsz
  split at h
  case h_1 => cases h
  rename_i rows hrows
  split at h
  case isTrue => cases h
  rename_i hone
  have hone : rows.flatten.all AVal.one = true := by simpa using hone
  obtain ⟨hlen, new, hnew, hnv, hns⟩ := rowsA_sim (P := P) hR hrows hx
  have hvl := Vs_length hnv
  simp only [Array.length_toList] at hvl
  -- an append that grows
  have grow : ∀ (base : Option Addr) (sLen sCap : Nat) (csOld : List AVal) (old : Array Value), s = .slice base sLen sCap → Vs c csOld old.toList →
      (∀ w, w.heap = c.w.heap → (Builtin.firstCells i.size sLen (.slice base sLen sCap)).run P w = .ok old w) → old.size = sLen * i.size → sCap < sLen + rows.length → (sLen + rows.length) * i.bytes ≤ 140737488355328 →
      ∀ (H1 : Heap), Rel { c with w := c.w.drew } H1 → Tr c H { c with w := c.w.drew } H1 → Low lo c H { c with w := c.w.drew } H1 → H1.length = H.length →
      ∃ c' v, Rel c' (H1 ++ [some (.cells (csOld ++ rows.flatten))]) ∧ Tr c H c' (H1 ++ [some (.cells (csOld ++ rows.flatten))]) ∧ Low lo c H c' (H1 ++ [some (.cells (csOld ++ rows.flatten))]) ∧ V c' (.sl i.size H.length 0 (sLen + rows.length) (sLen + rows.length) false) v ∧
        (Builtin.append_ #[t, u] ty #[s, x]).run P c.w = .ok v c'.w := by
    intro base sLen sCap csOld old hs0 hov hold hos hlt hfit H1 hR1 hT1 hL1 hl1
    subst hs0
    obtain ⟨k, hk, hrun⟩ := run_append_grow' (ty := ty) hd hu' hi hz1 (w := c.w) (hlen c.w) (hold _ rfl) (hnew _ rfl) hlt hfit hb0
    have hov' := V_ext hT1.ext
    have hnv' := Vs_append (Vs_ext hT1.ext _ _ hov) (Vs_ext hT1.ext _ _ hnv)
    have hnv'' : Vs { c with w := c.w.drew } (csOld ++ rows.flatten) (old ++ new).toList := by simpa using hnv'
    have hadd := hR1.add (H' := H1 ++ [some (.cells (csOld ++ rows.flatten))]) H1.length (.cells (old ++ new ++ Builtin.zeroCells z.cells (k - (sLen + rows.length))) e) (.cells (csOld ++ rows.flatten))
      (hR1.fresh _ (Nat.le_refl _)) (by simp) (by simp) (by
        intro x y hxy
        rcases Nat.lt_or_ge x H1.length with h1 | h1
        · rw [List.getElem?_append_left h1] at hxy
          exact .inr ⟨by omega, hxy⟩
        · rw [List.getElem?_append_right h1] at hxy
          rcases Nat.eq_or_lt_of_le h1 with h2 | h2
          · rw [← h2] at hxy
            simp at hxy
            exact .inl ⟨h2.symm, hxy.symm⟩
          · rw [List.getElem?_eq_none (by simp; omega)] at hxy
            cases hxy) (fun hE => (newCells_more hE hnv'').1)
    refine ⟨_, .slice (some ⟨c.w.heap.size, 0, none⟩) (sLen + rows.length) k, hadd.1, hT1.trans hadd.2, hL1.trans hT1.ext (hR1.add_low lo _ _ (Nat.le_refl _) (by simp) fun x y hxy => by rw [List.getElem?_append_left]; exact hxy; rcases Nat.lt_or_ge x H1.length with h | h; exact h; rw [List.getElem?_eq_none h] at hxy; cases hxy), ?_, hrun⟩
    have hroom := (newCells_more (hadd.2.ext) hnv'').2
    simp only [V]
    refine ⟨c.w.heap.size, 0, k, 0, ?_, rfl, fun _ => rfl, Nat.le_refl _, hk, (fun h => by cases h), ?_⟩
    · rw [← hl1]
      exact put_ι _ _ _ _ _
    · refine hroom.mono ?_
      rw [zeroCells_size, hz2, Array.size_append, hos, hns, ← Nat.add_mul, ← Nat.add_mul]
      have : sLen + rows.length + (k - (sLen + rows.length)) = k := by omega
      rw [this]
      simp
  split at h
  · -- nil
    simp only [V] at hs
    subst hs
    split at h
    · rename_i h0
      simp only [Option.some.injEq, Prod.mk.injEq] at h
      obtain ⟨rfl, rfl⟩ := h
      have hn0 : rows.length = 0 := h0
      refine ⟨c, .slice none 0 0, hR, Tr.refl _ _, Low.refl _ _ _, by simp [V], ?_⟩
      have := run_append_room' (ty := ty) (w' := c.w) hd hu' hi (base := none) (sLen := 0) (sCap := 0) (hlen c.w) (hnew c.w rfl) (by omega) rfl
      rw [hn0] at this
      exact this
    · rename_i h0
      split at h
      · rename_i hfit
        simp only [Option.some.injEq, Prod.mk.injEq] at h
        obtain ⟨rfl, rfl⟩ := h
        obtain ⟨c', v, h1, h2, h2', h3, h4⟩ := grow none 0 0 [] #[] rfl (by simp [Vs]) (fun _ _ => by simp [Builtin.firstCells]) (by simp) (by omega) (by simpa using hfit) H hR.drew.1 hR.drew.2 ⟨fun _ _ _ h => ⟨h, fun _ _ _ => rfl⟩, fun _ _ h => h, Nat.le_refl _⟩ rfl
        simp only [Nat.zero_add, List.nil_append] at h1 h2 h2' h3
        exact ⟨c', v, h1, h2, h2', h3, h4⟩
      · cases h
  · -- a list
    rename_i s0 rs ex
    split at h
    · cases h
    rename_i hs0
    have hs0 : s0 = i.size := Decidable.of_not_not hs0
    subst hs0
    have hrs : rowsA H i.size (.list i.size rs ex) = some rs := by simp [rowsA]
    obtain ⟨hlen2, old, hold, hov, hos⟩ := rowsA_sim (P := P) hR hrs hs
    have hs' := hs
    simp only [V] at hs
    obtain ⟨a0, cap, vs, rfl, hcap, hex, _, hvs⟩ := hs
    split at h
    · rename_i h0
      simp only [Option.some.injEq, Prod.mk.injEq] at h
      obtain ⟨rfl, rfl⟩ := h
      have hn0 : rows.length = 0 := h0
      have hnew0 : new.toList = [] := by
        have : new.size = 0 := by rw [hns, hn0]; simp
        simpa using this
      refine ⟨c, _, hR, Tr.refl _ _, Low.refl _ _ _, hs', ?_⟩
      have := run_append_room' (ty := ty) (w' := c.w) hd hu' hi (base := some a0) (sLen := rs.length) (sCap := cap) (hlen c.w) (hnew c.w rfl) (by omega) (by rw [hnew0]; rfl)
      rw [hn0] at this
      exact this
    · rename_i h0
      split at h
      · rename_i hcc
        obtain ⟨hx1, hall, hfit⟩ := hcc
        simp only [Option.some.injEq, Prod.mk.injEq] at h
        obtain ⟨rfl, rfl⟩ := h
        have := hex hx1
        subst this
        exact grow _ _ _ rs.flatten old rfl hov hold hos (by omega) hfit H hR.drew.1 hR.drew.2 ⟨fun _ _ _ h => ⟨h, fun _ _ _ => rfl⟩, fun _ _ h => h, Nat.le_refl _⟩ rfl
      · cases h
  · -- a slice of one's own
    rename_i s0 b off len cap ex
    split at h
    · cases h
    rename_i hs0
    have hs0 : s0 = i.size := Decidable.of_not_not hs0
    subst hs0
    split at h
    case h_2 => cases h
    rename_i cs hb
    split at h
    case isFalse => cases h
    rename_i hle
    have hrs : rowsA H i.size (.sl i.size b off len cap ex) = some (chunk i.size len (cs.drop off)) := by simp [rowsA, hb, hle]
    obtain ⟨hlen2, old, hold, hov, hos⟩ := rowsA_sim (P := P) hR hrs hs
    rw [chunk_length] at hold hos
    rw [chunk_flatten _ _ _ (by simp; omega)] at hov
    have hs' := hs
    simp only [V] at hs
    obtain ⟨B, base, k, o, hi', rfl, ho, h1, h2, h3, h4⟩ := hs
    obtain ⟨B0, base0, h5, _, _, hf, hroom, _⟩ := hR.blk b _ hb
    rw [hi'] at h5
    simp only [Option.some.injEq, Prod.mk.injEq] at h5
    obtain ⟨rfl, rfl⟩ := h5
    -- an append in its place
    have inplace : len + rows.length ≤ k → ∃ w', (Builtin.append_ #[t, u] ty #[.slice (some ⟨B, o, none⟩) len k, x]).run P c.w = .ok (.slice (some ⟨B, o, none⟩) (len + rows.length) k) w' ∧
        ((0 < rows.length ∧ Wrote c.w w' B (base + (off + len * i.size)) new.toList) ∨ (rows.length = 0 ∧ w' = c.w)) := by
      intro hle2
      by_cases hn : rows.length = 0
      · have hnew0 : new.toList = [] := by
          have : new.size = 0 := by rw [hns, hn]; simp
          simpa using this
        have := run_append_room' (ty := ty) (w' := c.w) hd hu' hi (base := some ⟨B, o, none⟩) (sLen := len) (sCap := k) (hlen c.w) (hnew c.w rfl) (by omega) (by rw [hnew0]; rfl)
        exact ⟨c.w, this, .inr ⟨hn, rfl⟩⟩
      · have ho' := ho (by omega)
        subst ho'
        have hmul : len * i.size + rows.length * i.size ≤ k * i.size := by rw [← Nat.add_mul]; exact Nat.mul_le_mul_right _ hle2
        obtain ⟨w', hst, hw⟩ := run_stores (P := P) B new.toList (base + off + len * i.size) 0 c.w (h4.mono (by simp only [Array.length_toList, hns]; omega)) hf (ones_of_Vs hnv hone)
        refine ⟨w', run_append_room' (ty := ty) hd hu' hi (hlen c.w) (hnew c.w rfl) hle2 (by simp only [add_plain]; exact hst), .inl ⟨by omega, ?_⟩⟩
        rw [show base + (off + len * i.size) = base + off + len * i.size + 0 by omega]
        exact hw
    split at h
    · rename_i h0
      have h0 : rows.length = 0 := h0
      simp only [Option.some.injEq, Prod.mk.injEq] at h
      obtain ⟨rfl, rfl⟩ := h
      obtain ⟨w', hrun, hw⟩ := inplace (by omega)
      rcases hw with ⟨hpos, hw⟩ | ⟨h0, rfl⟩
      · omega
      · rw [h0] at hrun
        exact ⟨c, _, hR, Tr.refl _ _, Low.refl _ _ _, hs', hrun⟩
    rename_i hne
    split at h
    · rename_i hlc
      split at h
      · rename_i hin
        simp only [Option.some.injEq, Prod.mk.injEq] at h
        obtain ⟨rfl, rfl⟩ := h
        obtain ⟨w', hrun, hw⟩ := inplace (by omega)
        rcases hw with ⟨hpos, hw⟩ | ⟨h0, rfl⟩
        · have hmul : (len + rows.length) * i.size = len * i.size + rows.length * i.size := Nat.add_mul _ _ _
          obtain ⟨h6, h7⟩ := hR.write hb hi' hw hnv (by omega)
          refine ⟨_, _, h6, h7, hR.set_low hin.1 hb hi' hw.keep (fun x y hx hxy => by rw [List.getElem?_set, if_neg (fun e => hx e.symm)]; exact hxy) (fun _ _ h => h) (by simp), ?_, hrun⟩
          simp only [V]
          exact ⟨B, base, k, o, hi', rfl, ho, hlc, h2, h3, hw.room.2 h4⟩
        · have hf0 : rows.flatten = [] := by
            have : rows.flatten.length = 0 := by rw [hvl, hns, h0]; simp
            exact List.eq_nil_of_length_eq_zero this
          rw [hf0, splice_nil, h0]
          have hset : H.set b (some (.cells cs)) = H := by
            apply List.ext_getElem?
            intro j
            rw [List.getElem?_set]
            split
            · rename_i hj
              subst hj
              split
              · exact hb.symm
              · rename_i hn; rw [List.getElem?_eq_none (by omega)] at hb; cases hb
            · rfl
          rw [hset]
          rw [h0] at hrun
          exact ⟨c, _, hR, Tr.refl _ _, Low.refl _ _ _, hs', hrun⟩
      · cases h
    · rename_i hlc
      split at h
      case isFalse => cases h
      rename_i hfit
      split at h
      · rename_i hx1
        simp only [Option.some.injEq, Prod.mk.injEq] at h
        obtain ⟨rfl, rfl⟩ := h
        have := h3 hx1
        exact grow _ _ _ _ old rfl hov hold hos (by omega) hfit H hR.drew.1 hR.drew.2 ⟨fun _ _ _ h => ⟨h, fun _ _ _ => rfl⟩, fun _ _ h => h, Nat.le_refl _⟩ rfl
      · rename_i hx1
        split at h
        case isFalse => cases h
        rename_i hend
        simp only [Option.some.injEq, Prod.mk.injEq] at h
        obtain ⟨rfl, rfl⟩ := h
        have htake : (cs.drop off).take (len * i.size) = cs.drop off := List.take_of_length_le (by simp; omega)
        rw [htake] at hov
        by_cases hk : len + rows.length ≤ k
        · obtain ⟨w', hrun, hw⟩ := inplace hk
          rcases hw with ⟨hpos, hw⟩ | ⟨h0, _⟩
          · have ho' := ho (by omega)
            subst ho'
            obtain ⟨_, _, _, _, _, _, _, vs, ha, hvs⟩ := hR.blk b _ hb
            rename_i hBx _ _ _ _
            rw [hi'] at hBx
            simp only [Option.some.injEq, Prod.mk.injEq] at hBx
            obtain ⟨rfl, rfl⟩ := hBx
            have hl2 := Vs_length hvs
            have hmul : len * i.size + rows.length * i.size ≤ k * i.size := by rw [← Nat.add_mul]; exact Nat.mul_le_mul_right _ hk
            have hren := hR.renew (base' := base + off) (blk' := .cells (cs.drop off ++ rows.flatten)) hb hi' w' hw.size hw.keep (fun X t n h => by rw [hw.shape]; exact h) hw.os hw.tape hw.output (fun hE => by
              refine ⟨?_, ?_, vs.drop off ++ new.toList, ?_, ?_⟩
              · intro q hr
                show w'.frozen? _ = false
                rw [hw.frozen]
                exact hf q (hw.room.1 hr)
              · refine hw.room.2 (h4.mono ?_)
                rw [List.length_append, List.length_drop, hvl, hns]
                omega
              · show At w' B (base + off) _
                intro j v hj
                rcases Nat.lt_or_ge j (vs.drop off).length with hj1 | hj1
                · rw [List.getElem?_append_left hj1] at hj
                  rw [hw.old _ (.inl (by simp at hj1; omega))]
                  exact At_drop off ha j v hj
                · rw [List.getElem?_append_right hj1] at hj
                  have := hw.new _ v hj
                  simp only [List.length_drop] at this hj1
                  rw [show base + (off + len * i.size) + (j - (vs.length - off)) = base + off + j by omega] at this
                  exact this
              · exact Vs_append (Vs_drop _ (Vs_ext hE _ _ hvs)) (Vs_ext hE _ _ hnv))
            refine ⟨_, _, hren.1, hren.2, hR.set_low hend.1 hb hi' hw.keep (fun x y hx hxy => by
              have hxl : x < H.length := by
                rcases Nat.lt_or_ge x H.length with h | h
                · exact h
                · rw [List.getElem?_eq_none h] at hxy; cases hxy
              rw [List.getElem?_append_left (by simpa using hxl), List.getElem?_set, if_neg (fun e => hx e.symm)]
              exact hxy) (fun x hx h => by simp only [Cx.put]; rw [if_neg (by omega)]; exact h) (by simp), ?_, hrun⟩
            simp only [V]
            refine ⟨B, base + off, k, base + off, put_ι _ _ _ _ _, rfl, fun _ => rfl, Nat.le_refl _, hk, (fun h => by cases h), ?_⟩
            exact hw.room.2 (h4.mono (by omega))
          · omega
        · have hdrop := hR.drop b
          have hdr := hdrop.1.drew
          exact grow _ _ _ _ old rfl hov hold hos (by omega) hfit (H.set b none) hdr.1 (hdrop.2.trans hdr.2)
            (hR.set_low hend.1 hb hi' (fun _ _ => rfl) (fun x y hx hxy => by rw [List.getElem?_set, if_neg (fun e => hx e.symm)]; exact hxy) (fun _ _ h => h) (by simp)) (by simp)
  · cases h
end Go.Am

/- The idealised run of a function's code. Generic: over any program. -/
namespace Go.Am
inductive AExit where
  | normal
  | exit (id : Nat)
  | ret
  deriving DecidableEq, Inhabited
def guardA (ops : List Oper) (ρ : List AVal) (o : Oper) : Option Bool :=
  match o.guard with
  | none => some true
  | some (j, want) =>
    match (ops[j]?).bind (·.dst) with
    | none => some false
    | some d =>
      match ρ[d]? with
      | none => some false
      | some (.bool b) => some (b == want)
      | some .junk => none
      | some _ => some false
abbrev CallF := Nat → FuncId → List AVal → Heap → Option (AVal × Heap)
def putA (ρ : List AVal) (dst : Option Tmp) (v : AVal) : List AVal :=
  match dst with
  | some d => ρ.set d v
  | none => ρ
def effA (S : AStat) (call : CallF) (lo : Nat) (ρ : List AVal) (H : Heap) : Op → Option (AVal × Heap)
  | .store t x v => (storeA S.P lo t H (evalA S ρ x) (evalA S ρ v)).map fun H' => (undefA, H')
  | .mapUpdate t m k v => (mapUpdateA S.P lo t H (evalA S ρ m) (evalA S ρ k) (evalA S ρ v)).map fun H' => (undefA, H')
  | .insert t m k v => (mapUpdateA S.P lo t H (evalA S ρ m) (evalA S ρ k) (evalA S ρ v)).map fun H' => (undefA, H')
  | .next x isString => nextA lo H (evalA S ρ x) isString
  | .range t x => rangeMA S.P t H (evalA S ρ x)
  | .entry x => (entryA H (evalA S ρ x)).map fun v => (v, H)
  | .convert s d x => bytesA S.P s d H (evalA S ρ x)
  | .call { callee := .builtin .append, args := args, argTypes := ts } =>
    match args.toList.map (evalA S ρ), ts.toList with
    | [s, x], [t, u] => appendA S.P lo t u H s x
    | _, _ => none
  | .call { callee := .value f, args := args, .. } =>
    match evalA S ρ f with
    | .fn (.func g) first captured =>
      match S.ext g (first ++ args.toList.map (evalA S ρ) ++ captured) with
      | some v => some (v, H)
      | none => call lo g (first ++ args.toList.map (evalA S ρ) ++ captured) H
    | _ => none
  | .call { callee := .invoke r name, args := args, .. } =>
    match evalA S ρ r with
    | .iface t v =>
      match S.meth t name, nk v with
      | some g, some (.p, _) => call lo g (v :: args.toList.map (evalA S ρ)) H
      | _, _ => match S.methV t name v with
        | some (g, v') => (S.ext g (v' :: args.toList.map (evalA S ρ))).map fun r => (r, H)
        | none => none
    | _ => none
  | _ => none
def opA (S : AStat) (call : CallF) (lo : Nat) (ρ : List AVal) (H : Heap) (o : Oper) : Option (AVal × Heap) :=
  match quietA S ρ H o.op with
  | some v => some (v, H)
  | none =>
    match newA S ρ o.op with
    | some (blk, mk) => some (mk H.length, H ++ [some blk])
    | none => effA S call lo ρ H o.op
def opsA (S : AStat) (call : CallF) (lo : Nat) (ops : List Oper) : List Oper → List AVal → Heap → Option (List AVal × Heap)
  | [], ρ, H => some (ρ, H)
  | o :: rest, ρ, H =>
    match guardA ops ρ o with
    | none => none
    | some false => opsA S call lo ops rest (putA ρ o.dst undefA) H
    | some true =>
      match opA S call lo ρ H o with
      | none => none
      | some (v, H') => opsA S call lo ops rest (putA ρ o.dst v) H'
def isNewB : Op → Bool
  | .alloc _ | .box _ _ | .buildSlice _ _ _ | .makeSlice _ _ _ | .makeMap _ none | .range _ _ => true
  | _ => false
def isEffB : Op → Bool
  | .store _ _ _ | .mapUpdate _ _ _ _ | .insert _ _ _ _ | .next _ _ => true
  | .call { callee := .builtin .len, .. } | .call { callee := .builtin .min, .. } | .call { callee := .builtin .max, .. } => false
  | .call _ => true
  | _ => false
def blkOf : AVal → Option Nat
  | .ptr b _ => some b
  | .mapr b => some b
  | _ => none
def readsA (S : AStat) (ρ : List AVal) : Op → Option Nat
  | .load _ x => blkOf (evalA S ρ x)
  | .lookup _ m _ _ => blkOf (evalA S ρ m)
  | .slice _ x _ _ _ => blkOf (evalA S ρ x)
  | .convert _ _ x => slBlk (evalA S ρ x)
  | .call { callee := .builtin .len, args := args, .. } =>
    match args[0]? with
    | some x => match evalA S ρ x with
      | .mapr b => some b
      | _ => none
    | none => none
  | _ => none
def touchA (S : AStat) (ρ : List AVal) : Op → Option (List Nat)
  | .store _ x _ => some (blkOf (evalA S ρ x)).toList
  | .mapUpdate _ m _ _ => some (blkOf (evalA S ρ m)).toList
  | .insert _ m _ _ => some (blkOf (evalA S ρ m)).toList
  | .next x _ => some (blkOf (evalA S ρ x)).toList
  | .call { callee := .builtin .append, args := args, .. } =>
    match args[0]? with
    | some x => match evalA S ρ x with
      | .sl _ b _ _ _ _ => some [b]
      | _ => some []
    | none => none
  | .call { callee := .value f, .. } =>
    match evalA S ρ f with
    | .fn (.func g) _ _ => if stillB S g then some [] else none
    | _ => none
  | _ => none
def samePs : List AVal → List AVal → Bool
  | [], [] => true
  | .ptr b o :: as, .ptr b' o' :: bs => Nat.beq b b' && Nat.beq o o' && samePs as bs
  | .int k n :: as, .int k' n' :: bs => decide (k = k') && decide (n = n') && samePs as bs
  | .sl s b o l c e :: as, .sl s' b' o' l' c' e' :: bs => Nat.beq s s' && Nat.beq b b' && Nat.beq o o' && Nat.beq l l' && Nat.beq c c' && (e == e') && samePs as bs
  | .nils :: as, .nils :: bs => samePs as bs
  | _, _ => false
def sameB : Option (Option ABlk) → Option (Option ABlk) → Bool
  | some (some (.cells as)), some (some (.cells bs)) => samePs as bs
  | _, _ => false
def chgA (n : Nat) (g g' : Nat → Option (Option ABlk)) : List Nat := (List.range n).filter fun b => !sameB (g b) (g' b)
def touchD (S : AStat) (ρ : List AVal) (op : Op) (H H' : Heap) : Option (List Nat) := match touchA S ρ op with
  | some l => some l
  | none => some (chgA H.length (fun b => H[b]?) (fun b => H'[b]?))
def befs : List Oper → List Nat → List Nat
  | [], acc => acc
  | o :: os, acc => befs os (acc ++ [o.after.toList.foldl (fun s e => if Region.binds .any e then s ||| 2 ^ e.on ||| acc.getD e.on 0 else s) 0])
def pairOk (ops : Array Oper) (B : List Nat) (i j : Nat) : Bool :=
  (B.getD j 0).testBit i ||
  match ops[i]?, ops[j]? with
  | some x, some y => Oper.apart ops x y && !(isEffB x.op && isEffB y.op)
  | _, _ => true
def regionOk (ops : Array Oper) (B : List Nat) : Bool :=
  ((List.range ops.size).all fun j => (match ops[j]? with | some o => o.after.toList.all fun e => !Region.binds .any e || decide (e.on < j) | none => true) &&
    (List.range j).all fun i => pairOk ops B i j)
def hidden (ops : Array Oper) (B : List Nat) (n0 k : Nat) : List Nat :=
  ((List.range ops.size).filter fun j => (match ops[j]? with | some o => isNewB o.op | none => false) && !(B.getD k 0).testBit j).map (n0 + ·)
def hide (H : Heap) : List Nat → Heap
  | [] => H
  | b :: bs => hide (H.set b none) bs
def unhide (H0 H : Heap) : List Nat → Heap
  | [] => H
  | b :: bs => unhide H0 (H.set b (H0.getD b none)) bs
structure DrawOut where
  reads : List (Nat × Nat)
  touches : List (Nat × Option (List Nat))
  ρ : List AVal
  H : Heap
def drawGo (S : AStat) (call : CallF) (lo n0 : Nat) (ops : Array Oper) (B : List Nat) : List Oper → Nat → List AVal → Heap → Option DrawOut
  | [], _, ρ, H => some ⟨[], [], ρ, H⟩
  | o :: rest, k, ρ, H =>
    match guardA ops.toList ρ o with
    | none => none
    | some false => drawGo S call lo n0 ops B rest (k + 1) (putA ρ o.dst undefA) H
    | some true =>
      if isNewB o.op then
        match newA S ρ o.op with
        | none => none
        | some (blk, mk) =>
          match H[n0 + k]? with
          | some none => drawGo S call lo n0 ops B rest (k + 1) (putA ρ o.dst (mk (n0 + k))) (H.set (n0 + k) (some blk))
          | _ => none
      else if isEffB o.op then
        match effA S call lo ρ (hide H (hidden ops B n0 k)) o.op with
        | none => none
        | some (v, H') =>
          if H.length ≤ H'.length then
            match drawGo S call lo n0 ops B rest (k + 1) (putA ρ o.dst v) (unhide H H' (hidden ops B n0 k)) with
            | none => none
            | some r => some { r with touches := (k, touchD S ρ o.op (hide H (hidden ops B n0 k)) H') :: r.touches }
          else none
      else
        match quietA S ρ H o.op with
        | none => none
        | some v =>
          match drawGo S call lo n0 ops B rest (k + 1) (putA ρ o.dst v) H with
          | none => none
          | some r =>
            match readsA S ρ o.op with
            | none => some r
            | some b => some { r with reads := (k, b) :: r.reads }
def apartB (B : List Nat) (reads : List (Nat × Nat)) (touches : List (Nat × Option (List Nat))) : Bool :=
  reads.all fun r => touches.all fun t => (B.getD r.1 0).testBit t.1 || (B.getD t.1 0).testBit r.1 ||
    match t.2 with
    | some l => !l.contains r.2
    | none => false
def drawA (S : AStat) (call : CallF) (lo : Nat) (ops : Array Oper) (ρ : List AVal) (H : Heap) : Option (List AVal × Heap) :=
  let B := befs ops.toList []
  if regionOk ops B && decide (lo ≤ H.length) then
    match drawGo S call lo H.length ops B ops.toList 0 ρ (if ops.any (fun o => isNewB o.op) then H ++ List.replicate ops.size none else H) with
    | none => none
    | some r => if apartB B r.reads r.touches then some (r.ρ, r.H) else none
  else none
def frzs (f : AVal → Option AVal) : List AVal → Option (List AVal)
  | [] => some []
  | a :: as => match f a with
    | none => none
    | some b => match frzs f as with
      | none => none
      | some bs => some (b :: bs)
def frzss (f : AVal → Option AVal) : List (List AVal) → Option (List (List AVal))
  | [] => some []
  | a :: as => match frzs f a with
    | none => none
    | some b => match frzss f as with
      | none => none
      | some bs => some (b :: bs)
def frz (n0 : Nat) (H : Heap) : Bool → Nat → AVal → Option AVal
  | _, 0, _ => none
  | top, k + 1, a =>
    match a with
    | .agg cs => (frzs (frz n0 H top k) cs).map .agg
    | .tup cs => (frzs (frz n0 H top k) cs).map .tup
    | .iface t v => (frz n0 H top k v).map (.iface t)
    | .fn f x y => match frzs (frz n0 H top k) x, frzs (frz n0 H top k) y with
      | some x', some y' => some (.fn f x' y')
      | _, _ => none
    | .ptr b off =>
      if b < n0 then (if top then some (.ptr b off) else none) else
      match H[b]? with
      | some (some (.cells cs)) => (frzs (frz n0 H false k) (cs.drop off)).map .ipt
      | _ => none
    | .sl sz b off len cap ex =>
      if b < n0 then (if top then some (.sl sz b off len cap ex) else none) else
      match H[b]? with
      | some (some (.cells cs)) =>
        if off + len * sz ≤ cs.length then (frzss (frz n0 H false k) (chunk sz len (cs.drop off))).map fun rows => .list sz rows (ex && cap == len) else none
      | _ => none
    | .mapr b => if b < n0 ∧ top then some (.mapr b) else none
    | a => some a
def resultA (S : AStat) (ρ : List AVal) (H : Heap) : ResultVar → Option AVal
  | .tmp t => some (ρ.getD t undefA)
  | .cell a t => loadA S.P t H (ρ.getD a undefA)
def resultsA (S : AStat) (ρ : List AVal) (H : Heap) : List ResultVar → Option (List AVal)
  | [] => some []
  | r :: rs =>
    match resultA S ρ H r with
    | none => none
    | some v => match resultsA S ρ H rs with
      | none => none
      | some vs => some (v :: vs)
def tupled : List AVal → AVal
  | [v] => v
  | vs => .tup vs
def finish (p : Pol) (H0 : Heap) (v : AVal) (H : Heap) : Option (AVal × Heap) :=
  match p with
  | .keep => some (v, H)
  | .pure => (frz H0.length H true 64 v).map fun v' => (v', H0)
  | .fresh => some (v, H)
def Pol.lo (p : Pol) (lo : Nat) (H : Heap) : Nat :=
  match p with
  | .keep => lo
  | .pure => H.length
  | .fresh => max lo H.length
abbrev ExecF := Nat → Code → List AVal → Heap → Option (AExit × List AVal × Heap)
def callA (S : AStat) (rec : ExecF) : CallF := fun lo f args H =>
  match S.hook f with
  | some hk => hk lo args H
  | none =>
    match S.P.funcs[f]? with
    | none => none
    | some fn =>
      match fn.body with
      | none => none
      | some body =>
        match rec ((S.pol f).lo lo H) body (args ++ List.replicate (fn.ntmps - args.length) undefA) H with
        | none => none
        | some (.exit _, _, _) => none
        | some (_, ρ, H') =>
          match resultsA S ρ H' fn.results.toList with
          | none => none
          | some vs => finish (S.pol f) H (tupled vs) H'
def stepA (S : AStat) (rec : ExecF) : ExecF := fun lo c ρ H =>
  match c with
  | .skip => some (.normal, ρ, H)
  | .label _ => some (.normal, ρ, H)
  | .ret => some (.ret, ρ, H)
  | .exit id => some (.exit id, ρ, H)
  | .seq a b =>
    match rec lo a ρ H with
    | some (.normal, ρ', H') => rec lo b ρ' H'
    | r => r
  | .cond x a b =>
    match evalA S ρ x with
    | .bool true => rec lo a ρ H
    | .bool false => rec lo b ρ H
    | _ => none
  | .block id b =>
    match rec lo b ρ H with
    | some (.exit i, ρ', H') => if i = id then some (.normal, ρ', H') else some (.exit i, ρ', H')
    | r => r
  | .loop b =>
    match rec lo b ρ H with
    | some (.normal, ρ', H') => rec lo (.loop b) ρ' H'
    | r => r
  | .region _ ops draw =>
    if draw then (drawA S (callA S rec) lo ops ρ H).map fun r => (.normal, r.1, r.2)
    else (opsA S (callA S rec) lo ops.toList ops.toList ρ H).map fun r => (.normal, r.1, r.2)
  | _ => none
def execA (S : AStat) : Nat → ExecF
  | 0 => fun _ _ _ _ => none
  | n + 1 => stepA S (execA S n)
def runA (S : AStat) (n : Nat) : CallF := callA S (execA S n)
end Go.Am

/- That the model's run keeps to the idealised one: operations one behind the other, calls, code. Generic: over any program. -/
namespace Go.Am
open Go.RowKit
def AExit.toExit : AExit → Exit
  | .normal => .normal
  | .exit id => .exit id
  | .ret => .ret
def CallPost (lo : Nat) (c : Cx) (H : Heap) (r : AVal) (H' : Heap) (e : Ending) (w' : World) : Prop :=
  ∃ v c', e = .returned v ∧ c'.w = w' ∧ Rel c' H' ∧ Tr c H c' H' ∧ Low lo c H c' H' ∧ V c' r v
def CallOk (S : AStat) (call : CallF) : Prop :=
  ∀ lo f args H r H', call lo f args H = some (r, H') → ∀ c vs, Rel c H → GlobOk S c → Vs c args vs →
    (∃ fn, S.P.funcs[f]? = some fn ∧ fn.body.isSome = true) ∧ Calls S.P f vs.toArray c.w (CallPost lo c H r H')
structure StatOk (S : AStat) : Prop where
  noNum : ∀ (f : FuncId) (fn : Func), S.P.funcs[f]? = some fn → (fn.name == "runtime.NumGoroutine") = false
  meth : ∀ t name g, S.meth t name = some g → ∀ a w, (method (S.P.types.size + Made.depth) t (.pointer a) name).run S.P w = .ok (g, .pointer a) w
  hook : ∀ f hk, S.hook f = some hk → ∀ lo args H r H', hk lo args H = some (r, H') → ∀ c vs, Rel c H → GlobOk S c → Vs c args vs →
    (∃ fn, S.P.funcs[f]? = some fn ∧ fn.body.isSome = true) ∧ Calls S.P f vs.toArray c.w (CallPost lo c H r H')
  mixed : S.P.follows .mixedOrders = true
  low : ∀ f hk, S.hook f = some hk → ∀ lo args H r H', hk lo args H = some (r, H') → H.length ≤ H'.length ∧ ∀ b, b < lo → b < H.length → H'[b]? = H[b]?
def Post (lo : Nat) (c : Cx) (H : Heap) (x : AExit) (ρ' : List AVal) (H' : Heap) (e : Exit) (a' : Act) (w' : World) : Prop :=
  e = x.toExit ∧ a'.defers = [] ∧ ∃ c', c'.w = w' ∧ Rel c' H' ∧ Tr c H c' H' ∧ Low lo c H c' H' ∧ Vs c' ρ' a'.tmps.toList
theorem Post.trans {lo : Nat} {c0 c : Cx} {H0 H : Heap} (hT : Tr c0 H0 c H) (hL : Low lo c0 H0 c H) {x : AExit} {ρ' : List AVal} {H' : Heap} {e : Exit} {a' : Act} {w' : World} (h : Post lo c H x ρ' H' e a' w') :
    Post lo c0 H0 x ρ' H' e a' w' := by
  obtain ⟨h1, h2, c', h3, h4, h5, h6, h7⟩ := h
  exact ⟨h1, h2, c', h3, h4, hT.trans h5, hL.trans hT.ext h6, h7⟩
def ExecOk (S : AStat) (K : Nat) (rec : ExecF) : Prop :=
  ∀ lo code ρ H x ρ' H', rec lo code ρ H = some (x, ρ', H') → ∀ c a, Rel c H → GlobOk S c → Vs c ρ a.tmps.toList → a.defers = [] →
    code.wp S.P (Post lo c H x ρ' H') a c.w ∧ ∀ b, code = .loop b → Code.rounds S.P b (Post lo c H x ρ' H') K a c.w
theorem not_bool {c : Cx} {x : AVal} {v : Value} (h : V c x v) (h1 : ∀ b, x ≠ .bool b) (h2 : x ≠ .junk) : ∀ b, v ≠ .bool b := by
  intro b e
  subst e
  cases x <;> simp only [V] at h <;> simp_all
theorem guardA_sim {c : Cx} {ops : Array Oper} {ρ : List AVal} {a : Act} {o : Oper} {b : Bool} (h : guardA ops.toList ρ o = some b) (hρ : Vs c ρ a.tmps.toList) : Region.wanted o (yielded ops a.tmps) = b := by
  unfold guardA at h
  unfold Region.wanted
  split at h
  · rename_i hg
    simp only [Option.some.injEq] at h
    rw [hg]
    exact h
  · rename_i j want hg
    rw [hg]
    simp only
    have hops : ops.toList[j]? = ops[j]? := by simp
    rw [hops] at h
    split at h
    · rename_i hd
      simp only [Option.some.injEq] at h
      subst h
      simp [yielded, hd]
    · rename_i d hd
      have hl := Vs_length hρ
      split at h
      · rename_i hn
        simp only [Option.some.injEq] at h
        subst h
        have : a.tmps[d]? = none := by
          rw [List.getElem?_eq_none_iff] at hn
          rw [Array.getElem?_eq_none_iff]
          simp only [Array.length_toList] at hl
          omega
        simp [yielded, hd, this]
      · rename_i bv hn
        simp only [Option.some.injEq] at h
        subst h
        obtain ⟨v, h1, h2⟩ := Vs_get hρ hn
        simp only [V] at h2
        subst h2
        have : a.tmps[d]? = some (.bool bv) := by simpa using h1
        simp [yielded, hd, this]
      · cases h
      · rename_i av hnb hnj hn
        simp only [Option.some.injEq] at h
        subst h
        obtain ⟨v, h1, h2⟩ := Vs_get hρ hn
        have hv := not_bool h2 (fun b e => hnb b e) (fun e => hnj e)
        have : a.tmps[d]? = some v := by simpa using h1
        have hy : yielded ops a.tmps j = none := by
          simp only [yielded, hd, Option.bind_some, this]
          cases v <;> first | rfl | exact absurd rfl (hv _)
        rw [hy]
        rfl
theorem putA_Vs {c : Cx} {ρ : List AVal} {a : Act} (hρ : Vs c ρ a.tmps.toList) (dst : Option Tmp) {v : AVal} {u : Value} (h : V c v u) : Vs c (putA ρ dst v) (a.put dst u).tmps.toList := by
  cases dst with
  | none => exact hρ
  | some d =>
    simp only [putA, Act.put, Array.toList_setIfInBounds]
    exact Vs_set hρ h
theorem undef_V (c : Cx) : V c undefA undef := by
  simp only [undefA, V]
  exact ⟨[], rfl, by simp [Vs]⟩
theorem put_defers (a : Act) (dst : Option Tmp) (v : Value) : (a.put dst v).defers = a.defers := by cases dst <;> rfl
theorem opA_sim {S : AStat} (hS : StatOk S) {call : CallF} (hC : CallOk S call) {lo : Nat} {c : Cx} {H : Heap} {ρ : List AVal} {a : Act} (hR : Rel c H) (hG : GlobOk S c) (o : Oper) (hev : EvOn S c ρ a o.op.operands) {v : AVal} {H' : Heap}
    (h : opA S call lo ρ H o = some (v, H')) {K : Act → World → Prop} {Q : Exit → Act → World → Prop}
    (hK : ∀ c' u, Rel c' H' → Tr c H c' H' → Low lo c H c' H' → V c' v u → K (a.put o.dst u) c'.w) : o.wp S.P a c.w K Q := by
  have does : Does S lo c H a o v H' → o.wp S.P a c.w K Q := by
    rintro ⟨c', u, h1, h2, h3, h4, h5 | ⟨h5, rfl⟩⟩
    · unfold Oper.wp
      rw [h5]
      exact hK c' u h1 h2 h3 h4
    · unfold Oper.wp
      rw [h5]
      exact hK c' _ h1 h2 h3 h4
  have enter : ∀ (g : FuncId) (args : List AVal) (vs : List Value), call lo g args H = some (v, H') → Vs c args vs → ((execOp a.eval o).run S.P c.w = ((callFunc g vs.toArray).run S.P c.w)) → o.wp S.P a c.w K Q := by
    intro g args vs hc hvs hrun
    obtain ⟨⟨fn, hf, hb⟩, hcalls⟩ := hC lo g args H v H' hc c vs hR hG hvs
    have hcf : (callFunc g vs.toArray).run S.P c.w = .ok (.enter g vs.toArray) c.w := by
      have hb' : fn.body.isNone = false := by cases hfb : fn.body <;> simp_all
      have hn : ¬ ((fn.name == "runtime.NumGoroutine") = true) := by rw [hS.noNum g fn hf]; simp
      have hnb : ¬ (fn.body.isNone = true) := by rw [hb']; simp
      simp only [callFunc, Sem.run_bind, run_program, Result.andThen_ok, hf]
      rw [if_neg hn, if_neg hnb]
      rfl
    unfold Oper.wp
    rw [hrun, hcf]
    refine hcalls.mono ?_
    rintro e w' ⟨u, c', rfl, rfl, h1, h2, h3, h4⟩
    exact hK c' u h1 h2 h3 h4
  unfold opA at h
  split at h
  · rename_i r hq
    simp only [Option.some.injEq, Prod.mk.injEq] at h
    obtain ⟨rfl, rfl⟩ := h
    obtain ⟨u, h1, h2⟩ := quietA_sim hR o hev hq
    exact does ⟨c, u, hR, Tr.refl _ _, Low.refl _ _ _, h2, .inl h1⟩
  · split at h
    · rename_i blk mk hn
      simp only [Option.some.injEq, Prod.mk.injEq] at h
      obtain ⟨rfl, rfl⟩ := h
      obtain ⟨obj, u, h1, h2⟩ := (newA_sim o hev hn).run
      have hadd := hR.add (H' := H ++ [some blk]) H.length obj blk (hR.fresh _ (Nat.le_refl _)) (by simp) (by simp) (by
        intro x y hxy
        rcases Nat.lt_or_ge x H.length with h1 | h1
        · rw [List.getElem?_append_left h1] at hxy
          exact .inr ⟨by omega, hxy⟩
        · rw [List.getElem?_append_right h1] at hxy
          rcases Nat.eq_or_lt_of_le h1 with h2 | h2
          · rw [← h2] at hxy
            simp at hxy
            exact .inl ⟨h2.symm, hxy.symm⟩
          · rw [List.getElem?_eq_none (by simp; omega)] at hxy
            cases hxy) (fun hE => (h2 _ hE).1)
      refine does ⟨_, u, hadd.1, hadd.2, ?_, (h2 _ hadd.2.ext).2, .inl h1⟩
      refine hR.add_low lo _ _ (Nat.le_refl _) (by simp) fun x y hxy => ?_
      rw [List.getElem?_append_left]
      · exact hxy
      · rcases Nat.lt_or_ge x H.length with h | h
        · exact h
        · rw [List.getElem?_eq_none h] at hxy; cases hxy
    · unfold effA at h
      split at h
      · rename_i t x y ho
        rw [Option.map_eq_some_iff] at h
        obtain ⟨H2, h1, h2⟩ := h
        simp only [Prod.mk.injEq] at h2
        obtain ⟨rfl, rfl⟩ := h2
        exact does (storeA_sim hR o hev ho h1)
      · rename_i t m k y ho
        rw [Option.map_eq_some_iff] at h
        obtain ⟨H2, h1, h2⟩ := h
        simp only [Prod.mk.injEq] at h2
        obtain ⟨rfl, rfl⟩ := h2
        obtain ⟨c', g1, g2, g3, g4⟩ := mapUpdateA_sim hR h1 (hev m (by simp [ho, Op.operands])) (hev k (by simp [ho, Op.operands])) (hev y (by simp [ho, Op.operands]))
        refine does ⟨c', undef, g1, g2, g3, undef_V c', .inr ⟨?_, rfl⟩⟩
        obtain ⟨dst, op, type, pos, after, guard⟩ := o
        simp only at ho
        subst ho
        simp [execOp, g4]
      · rename_i t m k y ho
        rw [Option.map_eq_some_iff] at h
        obtain ⟨H2, h1, h2⟩ := h
        simp only [Prod.mk.injEq] at h2
        obtain ⟨rfl, rfl⟩ := h2
        obtain ⟨c', g1, g2, g3, g4⟩ := mapUpdateA_sim hR h1 (hev m (by simp [ho, Op.operands])) (hev k (by simp [ho, Op.operands])) (hev y (by simp [ho, Op.operands]))
        refine does ⟨c', undef, g1, g2, g3, undef_V c', .inr ⟨?_, rfl⟩⟩
        obtain ⟨dst, op, type, pos, after, guard⟩ := o
        simp only at ho
        subst ho
        simp [execOp, g4]
      · rename_i x isString ho
        obtain ⟨c', u, g1, g2, g3, g4, g5⟩ := nextA_sim (P := S.P) (t := o.type) hR h (hev x (by simp [ho, Op.operands]))
        refine does ⟨c', u, g1, g2, g3, g4, .inl ?_⟩
        obtain ⟨dst, op, type, pos, after, guard⟩ := o
        simp only at ho
        subst ho
        simp only [execOp] at g5 ⊢
        simp [g5]
      · rename_i t x ho
        obtain ⟨c', u, g1, g2, g3, g4, g5⟩ := rangeMA_sim (P := S.P) (lo := lo) hR h (hev x (by simp [ho, Op.operands]))
        refine does ⟨c', u, g1, g2, g3, g4, .inl ?_⟩
        obtain ⟨dst, op, type, pos, after, guard⟩ := o
        simp only at ho
        subst ho
        simp only [execOp] at g5 ⊢
        simp [g5]
      · rename_i x ho
        rw [Option.map_eq_some_iff] at h
        obtain ⟨r, h1, h2⟩ := h
        simp only [Prod.mk.injEq] at h2
        obtain ⟨rfl, rfl⟩ := h2
        obtain ⟨u, g4, g5⟩ := entryA_sim (P := S.P) hR h1 (hev x (by simp [ho, Op.operands]))
        refine does ⟨c, u, hR, Tr.refl _ _, Low.refl _ _ _, g4, .inl ?_⟩
        obtain ⟨dst, op, type, pos, after, guard⟩ := o
        simp only at ho
        subst ho
        simp only [execOp] at g5 ⊢
        simp [g5]
      · rename_i s d x ho
        obtain ⟨c', u, g1, g2, g3, g4, g5⟩ := bytesA_sim (P := S.P) (lo := lo) hR h (hev x (by simp [ho, Op.operands]))
        refine does ⟨c', u, g1, g2, g3, g4, .inl ?_⟩
        obtain ⟨dst, op, type, pos, after, guard⟩ := o
        simp only at ho
        subst ho
        simp only [execOp] at g5 ⊢
        simp [g5]
      · rename_i args ts ho
        split at h
        · rename_i s x t u e1 e2
          have hl := Vs_mapO (c := c) (S := S) (ρ := ρ) (a := a) args.toList (fun x hx => hev x (by simp [ho, Op.operands, Call.operands]; first | exact .inr (by simpa using hx) | simpa using hx))
          rw [e1] at hl
          simp only [Vs] at hl
          obtain ⟨sv, _, e3, hsv, xv, _, rfl, hxv, rfl⟩ := hl
          obtain ⟨c', vv, h1, h2, h3, h4, h5⟩ := appendA_sim (ty := o.type) hR h hsv hxv
          refine does ⟨c', vv, h1, h2, h3, h4, .inl ?_⟩
          have e4 : args.map a.eval = #[sv, xv] := by apply Array.ext'; simpa using e3
          have e5 : ts = #[t, u] := by apply Array.ext'; simpa using e2
          obtain ⟨dst, op, type, pos, after, guard⟩ := o
          simp only at ho
          subst ho
          simp only [execOp, Sem.run_bind, resolve, Sem.run_pure, Result.andThen_ok, invoke, builtin, e4, e5] at h5 ⊢
          simp [h5]
        · cases h
      · rename_i f args ts ho
        split at h
        · rename_i g first captured e1
          split at h
          · rename_i r hext
            simp only [Option.some.injEq, Prod.mk.injEq] at h
            obtain ⟨rfl, rfl⟩ := h
            obtain ⟨u, h1, h2⟩ := extCall_sim o hev ho e1 hext
            exact does ⟨c, u, hR, Tr.refl _ _, Low.refl _ _ _, h2, .inl h1⟩
          have hf := hev f (by simp [ho, Op.operands, Call.operands])
          rw [e1] at hf
          simp only [V] at hf
          obtain ⟨vs, us, e2, h1, h2⟩ := hf
          have hl := Vs_mapO (c := c) (S := S) (ρ := ρ) (a := a) args.toList (fun x hx => hev x (by simp [ho, Op.operands, Call.operands]; first | exact .inr (by simpa using hx) | simpa using hx))
          refine enter g _ (vs ++ args.toList.map a.eval ++ us) h (Vs_append (Vs_append h1 hl) h2) ?_
          obtain ⟨dst, op, type, pos, after, guard⟩ := o
          simp only at ho
          subst ho
          simp only [execOp, Sem.run_bind, resolve, e2, Deferred.ofValue, Sem.run_pure, Result.andThen_ok, invoke]
          congr 2
          apply Array.ext'
          simp
        · cases h
      · rename_i rcv name args ts ho
        split at h
        · rename_i t v0 e1
          have hf := hev rcv (by simp [ho, Op.operands, Call.operands])
          rw [e1] at hf
          simp only [V] at hf
          obtain ⟨u, e2, hu⟩ := hf
          split at h
          · rename_i g nb hm hn
            have hl := Vs_mapO (c := c) (S := S) (ρ := ρ) (a := a) args.toList (fun x hx => hev x (by simp [ho, Op.operands, Call.operands]; first | exact .inr (by simpa using hx) | simpa using hx))
            have hp := nk_sim hn hu
            have hpu : ∃ q, u = .pointer q := by
              cases u <;> simp [vnk] at hp
              exact ⟨_, rfl⟩
            obtain ⟨q, rfl⟩ := hpu
            refine enter g _ (.pointer q :: args.toList.map a.eval) h (by simp only [Vs]; exact ⟨_, _, rfl, hu, hl⟩) ?_
            obtain ⟨dst, op, type, pos, after, guard⟩ := o
            simp only at ho
            subst ho
            have e3 : #[Value.iface t (.pointer q)] ++ args.map a.eval = (Value.iface t (.pointer q) :: args.toList.map a.eval).toArray := by
              apply Array.ext'; simp
            have e4 : ((Value.iface t (.pointer q) :: args.toList.map a.eval).toArray.extract 1 (Value.iface t (.pointer q) :: args.toList.map a.eval).toArray.size) = (args.toList.map a.eval).toArray := by
              apply Array.ext'
              rw [Array.toList_extract]
              simp only [List.extract_eq_take_drop, List.drop_succ_cons, List.drop_zero, List.size_toArray, List.length_cons, List.length_map]
              rw [List.take_of_length_le (by simp)]
            simp only [execOp, Sem.run_bind, resolve, e2, Sem.run_pure, Result.andThen_ok, invoke, e3]
            simp only [List.getElem?_toArray, List.getElem?_cons_zero, callMethod, Sem.run_bind, run_program, Result.andThen_ok, hS.meth t name g hm q, e4]
            congr 2
            apply Array.ext'
            simp
          · split at h
            · rename_i g v1 hm
              rw [Option.map_eq_some_iff] at h
              obtain ⟨r, h, h2⟩ := h
              simp only [Prod.mk.injEq] at h2
              obtain ⟨rfl, rfl⟩ := h2
              obtain ⟨x, h1, h2⟩ := extInv_sim o hev ho e1 hm h
              exact does ⟨c, x, hR, Tr.refl _ _, Low.refl _ _ _, h2, .inl h1⟩
            · cases h
        · cases h
      · cases h
end Go.Am

/- What lies below the mark stays as it is in an idealised run. Generic: over any program. -/
namespace Go.Am
def LowH (lo : Nat) (H H' : Heap) : Prop := H.length ≤ H'.length ∧ ∀ b, b < lo → b < H.length → H'[b]? = H[b]?
theorem LowH.refl (lo : Nat) (H : Heap) : LowH lo H H := ⟨Nat.le_refl _, fun _ _ _ => rfl⟩
theorem LowH.trans {lo : Nat} {H H1 H2 : Heap} (h : LowH lo H H1) (k : LowH lo H1 H2) : LowH lo H H2 :=
  ⟨Nat.le_trans h.1 k.1, fun b h1 h2 => (k.2 b h1 (Nat.lt_of_lt_of_le h2 h.1)).trans (h.2 b h1 h2)⟩
theorem LowH.set {lo : Nat} {H : Heap} {b : Nat} {x : Option ABlk} (h : lo ≤ b) : LowH lo H (H.set b x) :=
  ⟨by simp, fun i h1 _ => by rw [List.getElem?_set, if_neg (by omega)]⟩
theorem LowH.append {lo : Nat} (H k : Heap) : LowH lo H (H ++ k) := ⟨by simp, fun b _ h => List.getElem?_append_left h⟩
def CallLow (call : CallF) : Prop := ∀ lo f args H r H', call lo f args H = some (r, H') → LowH lo H H'
def RecLow (rec : ExecF) : Prop := ∀ lo c ρ H x ρ' H', rec lo c ρ H = some (x, ρ', H') → LowH lo H H'
theorem mapUpdateA_low {P : Program} {lo : Nat} {t : TypeId} {H H' : Heap} {m k y : AVal} (h : mapUpdateA P lo t H m k y = some H') : LowH lo H H' := by
  unfold mapUpdateA at h
  (repeat' split at h) <;> first
    | (cases h; done)
    | (simp only [Option.some.injEq] at h
       subst h
       exact LowH.set (by assumption))
theorem nextA_low {lo : Nat} {H H' : Heap} {x r : AVal} {isString : Bool} (h : nextA lo H x isString = some (r, H')) : LowH lo H H' := by
  unfold nextA at h
  (repeat' split at h) <;> first
    | (cases h; done)
    | (simp only [Option.some.injEq, Prod.mk.injEq] at h
       obtain ⟨_, rfl⟩ := h
       first
        | exact LowH.refl _ _
        | exact LowH.set (by assumption)
        | exact LowH.set (And.left (by assumption)))
theorem storeA_low {P : Program} {lo : Nat} {t : TypeId} {H H' : Heap} {x v : AVal} (h : storeA P lo t H x v = some H') : LowH lo H H' := by
  unfold storeA at h
  split at h
  · split at h
    · split at h
      · rename_i hc
        simp only [Option.some.injEq] at h
        subst h
        exact LowH.set hc.1
      · cases h
    · cases h
  · cases h
theorem appendA_low {P : Program} {lo : Nat} {t u : TypeId} {H H' : Heap} {s x v : AVal} (h : appendA P lo t u H s x = some (v, H')) : LowH lo H H' := by
  unfold appendA at h
  (repeat' split at h) <;> first
    | (cases h; done)
    | (simp only at h; cases h; done)
    | (simp only at h
       (repeat' split at h) <;> first
        | (cases h; done)
        | (simp only [Option.some.injEq, Prod.mk.injEq] at h
           obtain ⟨_, rfl⟩ := h
           first
            | exact LowH.refl _ _
            | exact LowH.append _ _
            | exact LowH.set (And.left (by assumption))
            | exact LowH.trans (LowH.set (And.left (by assumption))) (LowH.append _ _)))
theorem effA_low {S : AStat} {call : CallF} (hC : CallLow call) {lo : Nat} {ρ : List AVal} {H H' : Heap} {op : Op} {v : AVal} (h : effA S call lo ρ H op = some (v, H')) : LowH lo H H' := by
  unfold effA at h
  split at h
  · rw [Option.map_eq_some_iff] at h
    obtain ⟨H2, h1, h2⟩ := h
    simp only [Prod.mk.injEq] at h2
    obtain ⟨_, rfl⟩ := h2
    exact storeA_low h1
  · rw [Option.map_eq_some_iff] at h
    obtain ⟨H2, h1, h2⟩ := h
    simp only [Prod.mk.injEq] at h2
    obtain ⟨_, rfl⟩ := h2
    exact mapUpdateA_low h1
  · rw [Option.map_eq_some_iff] at h
    obtain ⟨H2, h1, h2⟩ := h
    simp only [Prod.mk.injEq] at h2
    obtain ⟨_, rfl⟩ := h2
    exact mapUpdateA_low h1
  · exact nextA_low h
  · unfold rangeMA at h
    (repeat' split at h) <;> first
      | (cases h; done)
      | (simp only [Option.some.injEq, Prod.mk.injEq] at h
         obtain ⟨_, rfl⟩ := h
         exact LowH.append _ _)
  · rw [Option.map_eq_some_iff] at h
    obtain ⟨_, _, h2⟩ := h
    simp only [Prod.mk.injEq] at h2
    obtain ⟨_, rfl⟩ := h2
    exact LowH.refl _ _
  · unfold bytesA at h
    split at h
    · split at h
      · simp only [Option.some.injEq, Prod.mk.injEq] at h
        obtain ⟨_, rfl⟩ := h
        exact LowH.append _ _
      · cases h
    · cases h
  · split at h
    · exact appendA_low h
    · cases h
  · split at h
    · split at h
      · simp only [Option.some.injEq, Prod.mk.injEq] at h
        obtain ⟨_, rfl⟩ := h
        exact LowH.refl _ _
      · exact hC _ _ _ _ _ _ h
    · cases h
  · split at h
    · split at h
      · exact hC _ _ _ _ _ _ h
      · split at h
        · rw [Option.map_eq_some_iff] at h
          obtain ⟨_, _, h2⟩ := h
          simp only [Prod.mk.injEq] at h2
          obtain ⟨_, rfl⟩ := h2
          exact LowH.refl _ _
        · cases h
    · cases h
  · cases h
theorem opA_low {S : AStat} {call : CallF} (hC : CallLow call) {lo : Nat} {ρ : List AVal} {H H' : Heap} {o : Oper} {v : AVal} (h : opA S call lo ρ H o = some (v, H')) : LowH lo H H' := by
  unfold opA at h
  split at h
  · simp only [Option.some.injEq, Prod.mk.injEq] at h
    obtain ⟨_, rfl⟩ := h
    exact LowH.refl _ _
  · split at h
    · simp only [Option.some.injEq, Prod.mk.injEq] at h
      obtain ⟨_, rfl⟩ := h
      exact LowH.append _ _
    · exact effA_low hC h
theorem opsA_low {S : AStat} {call : CallF} (hC : CallLow call) {lo : Nat} {ops : List Oper} : ∀ {l : List Oper} {ρ ρ' : List AVal} {H H' : Heap}, opsA S call lo ops l ρ H = some (ρ', H') → LowH lo H H'
  | [], ρ, ρ', H, H', h => by
    simp only [opsA, Option.some.injEq, Prod.mk.injEq] at h
    obtain ⟨_, rfl⟩ := h
    exact LowH.refl _ _
  | o :: l, ρ, ρ', H, H', h => by
    simp only [opsA] at h
    split at h
    · cases h
    · exact opsA_low hC h
    · split at h
      · cases h
      · rename_i h1
        exact (opA_low hC h1).trans (opsA_low hC h)
theorem hide_low (lo : Nat) : ∀ (bs : List Nat) (H : Heap), (∀ b ∈ bs, lo ≤ b) → LowH lo H (hide H bs)
  | [], H, _ => LowH.refl _ _
  | b :: bs, H, h => (LowH.set (h b (by simp))).trans (hide_low lo bs _ fun x hx => h x (by simp [hx]))
theorem unhide_low (lo : Nat) (H0 : Heap) : ∀ (bs : List Nat) (H : Heap), (∀ b ∈ bs, lo ≤ b) → LowH lo H (unhide H0 H bs)
  | [], H, _ => LowH.refl _ _
  | b :: bs, H, h => (LowH.set (h b (by simp))).trans (unhide_low lo H0 bs _ fun x hx => h x (by simp [hx]))
theorem hidden_le {ops : Array Oper} {B : List Nat} {n0 k b : Nat} (h : b ∈ hidden ops B n0 k) : n0 ≤ b := by
  simp only [hidden, List.mem_map] at h
  obtain ⟨j, _, rfl⟩ := h
  omega
theorem drawGo_low {S : AStat} {call : CallF} (hC : CallLow call) {lo n0 : Nat} (hlo : lo ≤ n0) {ops : Array Oper} {B : List Nat} : ∀ {l : List Oper} {k : Nat} {ρ : List AVal} {H : Heap} {r : DrawOut}, drawGo S call lo n0 ops B l k ρ H = some r → LowH lo H r.H
  | [], k, ρ, H, r, h => by
    simp only [drawGo, Option.some.injEq] at h
    subst h
    exact LowH.refl _ _
  | o :: l, k, ρ, H, r, h => by
    have hh : ∀ b ∈ hidden ops B n0 k, lo ≤ b := fun b hb => Nat.le_trans hlo (hidden_le hb)
    simp only [drawGo] at h
    split at h
    · cases h
    · exact drawGo_low hC hlo h
    · split at h
      · split at h
        · cases h
        · split at h
          · exact (LowH.set (by omega)).trans (drawGo_low hC hlo h)
          · cases h
      · split at h
        · split at h
          · cases h
          · rename_i v H1 h1
            split at h
            · split at h
              · cases h
              · rename_i r1 h2
                simp only [Option.some.injEq] at h
                subst h
                have h3 : LowH lo _ r1.H := drawGo_low hC hlo h2
                exact (((hide_low lo _ H hh).trans (effA_low hC h1)).trans (unhide_low lo H _ H1 hh)).trans h3
            · cases h
        · split at h
          · cases h
          · split at h
            · cases h
            · rename_i r1 h2
              split at h <;>
              · simp only [Option.some.injEq] at h
                subst h
                have h3 : LowH lo _ r1.H := drawGo_low hC hlo h2
                exact h3
theorem drawA_low {S : AStat} {call : CallF} (hC : CallLow call) {lo : Nat} {ops : Array Oper} {ρ ρ' : List AVal} {H H' : Heap} (h : drawA S call lo ops ρ H = some (ρ', H')) : LowH lo H H' := by
  unfold drawA at h
  simp only at h
  split at h
  · rename_i hc
    simp only [Bool.and_eq_true, decide_eq_true_eq] at hc
    split at h
    · cases h
    · rename_i r hr
      split at h
      · simp only [Option.some.injEq, Prod.mk.injEq] at h
        obtain ⟨_, rfl⟩ := h
        have := drawGo_low hC hc.2 hr
        split at this
        · exact (LowH.append _ _).trans this
        · exact this
      · cases h
  · cases h
def HookLow (S : AStat) : Prop := ∀ f hk, S.hook f = some hk → ∀ lo args H r H', hk lo args H = some (r, H') → LowH lo H H'
theorem callA_low {S : AStat} (hS : HookLow S) {rec : ExecF} (hR : RecLow rec) : CallLow (callA S rec) := by
  intro lo f args H r H' h
  unfold callA at h
  split at h
  · rename_i hk hhk
    exact hS f hk hhk _ _ _ _ _ h
  · split at h
    · cases h
    · split at h
      · cases h
      · split at h
        · cases h
        · cases h
        · rename_i h1
          split at h
          · cases h
          · unfold finish at h
            split at h
            · rename_i hp
              simp only [Option.some.injEq, Prod.mk.injEq] at h
              obtain ⟨_, rfl⟩ := h
              have := hR _ _ _ _ _ _ _ h1
              rw [hp] at this
              exact this
            · rw [Option.map_eq_some_iff] at h
              obtain ⟨_, _, h2⟩ := h
              simp only [Prod.mk.injEq] at h2
              obtain ⟨_, rfl⟩ := h2
              exact LowH.refl _ _
            · rename_i hp
              simp only [Option.some.injEq, Prod.mk.injEq] at h
              obtain ⟨_, rfl⟩ := h
              have := hR _ _ _ _ _ _ _ h1
              rw [hp] at this
              exact ⟨this.1, fun b hb hb2 => this.2 b (by simp only [Pol.lo]; omega) hb2⟩
theorem callA_fresh {S : AStat} {rec : ExecF} (hR : RecLow rec) {lo : Nat} {f : FuncId} {args : List AVal} {H H' : Heap} {r : AVal} (hh : (S.hook f).isNone = true) (hp : S.pol f = .fresh) (h : callA S rec lo f args H = some (r, H')) :
    H.length ≤ H'.length ∧ ∀ b, b < H.length → H'[b]? = H[b]? := by
  unfold callA at h
  split at h
  · rename_i hk hhk
    rw [hhk] at hh
    cases hh
  · split at h
    · cases h
    · split at h
      · cases h
      · split at h
        · cases h
        · cases h
        · rename_i h1
          split at h
          · cases h
          · rw [hp] at h h1
            simp only [finish, Option.some.injEq, Prod.mk.injEq] at h
            obtain ⟨_, rfl⟩ := h
            have := hR _ _ _ _ _ _ _ h1
            exact ⟨this.1, fun b hb => this.2 b (by simp only [Pol.lo]; omega) hb⟩
theorem stepA_low {S : AStat} (hS : HookLow S) {rec : ExecF} (hR : RecLow rec) : RecLow (stepA S rec) := by
  intro lo c ρ H x ρ' H' h
  unfold stepA at h
  split at h
  · simp only [Option.some.injEq, Prod.mk.injEq] at h; obtain ⟨_, _, rfl⟩ := h; exact LowH.refl _ _
  · simp only [Option.some.injEq, Prod.mk.injEq] at h; obtain ⟨_, _, rfl⟩ := h; exact LowH.refl _ _
  · simp only [Option.some.injEq, Prod.mk.injEq] at h; obtain ⟨_, _, rfl⟩ := h; exact LowH.refl _ _
  · simp only [Option.some.injEq, Prod.mk.injEq] at h; obtain ⟨_, _, rfl⟩ := h; exact LowH.refl _ _
  · split at h
    · rename_i h1
      exact (hR _ _ _ _ _ _ _ h1).trans (hR _ _ _ _ _ _ _ h)
    · exact hR _ _ _ _ _ _ _ h
  · split at h
    · exact hR _ _ _ _ _ _ _ h
    · exact hR _ _ _ _ _ _ _ h
    · cases h
  · split at h
    · rename_i h1
      split at h <;>
      · simp only [Option.some.injEq, Prod.mk.injEq] at h
        obtain ⟨_, _, rfl⟩ := h
        exact hR _ _ _ _ _ _ _ h1
    · exact hR _ _ _ _ _ _ _ h
  · split at h
    · rename_i h1
      exact (hR _ _ _ _ _ _ _ h1).trans (hR _ _ _ _ _ _ _ h)
    · exact hR _ _ _ _ _ _ _ h
  · split at h
    · rw [Option.map_eq_some_iff] at h
      obtain ⟨⟨a, b⟩, h1, h2⟩ := h
      simp only [Prod.mk.injEq] at h2
      obtain ⟨_, _, rfl⟩ := h2
      exact drawA_low (callA_low hS hR) h1
    · rw [Option.map_eq_some_iff] at h
      obtain ⟨⟨a, b⟩, h1, h2⟩ := h
      simp only [Prod.mk.injEq] at h2
      obtain ⟨_, _, rfl⟩ := h2
      exact opsA_low (callA_low hS hR) h1
  · cases h
theorem execA_low {S : AStat} (hS : HookLow S) : ∀ n, RecLow (execA S n)
  | 0 => fun _ _ _ _ _ _ _ h => by cases h
  | n + 1 => stepA_low hS (execA_low hS n)
end Go.Am

/- That a region whose order is open keeps to the idealised one, in whatever order. Generic: over any program. -/
namespace Go.Am
open Go.RowKit
def newAt (ops : Array Oper) (i : Nat) : Bool := match ops[i]? with | some o => isNewB o.op | none => false
def effAt (ops : Array Oper) (i : Nat) : Bool := match ops[i]? with | some o => isEffB o.op | none => false
def dstAt (ops : Array Oper) (i : Nat) : Option Tmp := (ops[i]?).bind (·.dst)
theorem hide_get : ∀ (bs : List Nat) (H : Heap) (b : Nat), (hide H bs)[b]? = if b ∈ bs ∧ b < H.length then some none else H[b]?
  | [], H, b => by simp [hide]
  | x :: bs, H, b => by
    rw [hide, hide_get bs, List.length_set, List.getElem?_set]
    by_cases h1 : b ∈ bs <;> by_cases h2 : b < H.length <;> by_cases h3 : x = b <;> simp_all
    all_goals (intro e; exact absurd e.symm h3)
theorem hide_length : ∀ (bs : List Nat) (H : Heap), (hide H bs).length = H.length
  | [], H => rfl
  | x :: bs, H => by rw [hide, hide_length bs]; simp
theorem unhide_length : ∀ (bs : List Nat) (H0 H : Heap), (unhide H0 H bs).length = H.length
  | [], _, H => rfl
  | x :: bs, H0, H => by rw [unhide, unhide_length bs]; simp
theorem unhide_get : ∀ (bs : List Nat) (H0 H : Heap) (b : Nat), (unhide H0 H bs)[b]? = if b ∈ bs ∧ b < H.length then some (H0.getD b none) else H[b]?
  | [], _, H, b => by simp [unhide]
  | x :: bs, H0, H, b => by
    rw [unhide, unhide_get bs, List.length_set, List.getElem?_set]
    by_cases h1 : b ∈ bs <;> by_cases h2 : b < H.length <;> by_cases h3 : x = b <;> simp_all
    all_goals (intro e; exact absurd e.symm h3)
theorem mem_hidden {ops : Array Oper} {B : List Nat} {n0 k b : Nat} : b ∈ hidden ops B n0 k ↔ ∃ j, j < ops.size ∧ newAt ops j = true ∧ (B.getD k 0).testBit j = false ∧ b = n0 + j := by
  simp only [hidden, List.mem_map, List.mem_filter, List.mem_range, Bool.and_eq_true, Bool.not_eq_true']
  constructor
  · rintro ⟨j, ⟨h1, h2, h3⟩, rfl⟩
    exact ⟨j, h1, h2, h3, rfl⟩
  · rintro ⟨j, h1, h2, h3, rfl⟩
    exact ⟨j, ⟨h1, h2, h3⟩, rfl⟩
def Bits (ops : Array Oper) (B : List Nat) : Prop :=
  ∀ (D : Nat → Bool), (∀ i o, ops[i]? = some o → D i = true → ∀ e ∈ o.after.toList, Region.binds .any e = true → D e.on = true) →
    ∀ i k, i < ops.size → D i = true → (B.getD i 0).testBit k = true → D k = true
theorem fold_bits (acc : List Nat) (k : Nat) : ∀ (es : List Edge) (s : Nat), (es.foldl (fun s e => if Region.binds .any e then s ||| 2 ^ e.on ||| acc.getD e.on 0 else s) s).testBit k = true →
    s.testBit k = true ∨ ∃ e ∈ es, Region.binds .any e = true ∧ (k = e.on ∨ (acc.getD e.on 0).testBit k = true)
  | [], s, h => .inl h
  | e :: es, s, h => by
    rw [List.foldl_cons] at h
    rcases fold_bits acc k es _ h with h1 | ⟨e', he, h2⟩
    · split at h1
      · rename_i hb
        simp only [Nat.testBit_or, Bool.or_eq_true, Nat.testBit_two_pow, decide_eq_true_eq] at h1
        rcases h1 with (h1 | h1) | h1
        · exact .inl h1
        · exact .inr ⟨e, List.mem_cons_self .., hb, .inl h1.symm⟩
        · exact .inr ⟨e, List.mem_cons_self .., hb, .inr h1⟩
      · exact .inl h1
    · exact .inr ⟨e', List.mem_cons_of_mem _ he, h2⟩
theorem befs_bits {ops : Array Oper} (D : Nat → Bool) (hD : ∀ i o, ops[i]? = some o → D i = true → ∀ e ∈ o.after.toList, Region.binds .any e = true → D e.on = true) :
    ∀ (l : List Oper) (acc : List Nat), (∀ j, l[j]? = ops[acc.length + j]?) → (∀ i k, i < acc.length → D i = true → (acc.getD i 0).testBit k = true → D k = true) →
      ∀ i k, D i = true → ((befs l acc).getD i 0).testBit k = true → D k = true
  | [], acc, _, ha, i, k, hi, hk => by
    simp only [befs] at hk
    rcases Nat.lt_or_ge i acc.length with h | h
    · exact ha i k h hi hk
    · rw [List.getD_eq_getElem?_getD, List.getElem?_eq_none h] at hk
      simp at hk
  | o :: l, acc, hl, ha, i, k, hi, hk => by
    simp only [befs] at hk
    refine befs_bits D hD l _ (fun j => ?_) ?_ i k hi hk
    · have := hl (j + 1)
      simp only [List.getElem?_cons_succ] at this
      rw [this]
      congr 1
      simp
      omega
    · intro i k hlt hDi hbit
      rcases Nat.lt_or_ge i acc.length with h | h
      · rw [List.getD_eq_getElem?_getD, List.getElem?_append_left h, ← List.getD_eq_getElem?_getD] at hbit
        exact ha i k h hDi hbit
      · have hie : i = acc.length := by simp at hlt; omega
        subst hie
        rw [List.getD_eq_getElem?_getD, List.getElem?_append_right (Nat.le_refl _)] at hbit
        simp only [Nat.sub_self, List.getElem?_cons_zero, Option.getD_some] at hbit
        have ho : ops[acc.length]? = some o := by have := hl 0; simpa using this.symm
        rcases fold_bits acc k _ _ hbit with h1 | ⟨e, he, hb, h2⟩
        · simp at h1
        · have hDe := hD _ o ho hDi e he hb
          rcases h2 with rfl | h2
          · exact hDe
          · rcases Nat.lt_or_ge e.on acc.length with h3 | h3
            · exact ha _ _ h3 hDe h2
            · rw [List.getD_eq_getElem?_getD, List.getElem?_eq_none h3] at h2
              simp at h2
theorem befs_ok (ops : Array Oper) : Bits ops (befs ops.toList []) := by
  intro D hD i k _ hi hk
  exact befs_bits D hD ops.toList [] (fun j => by simp) (fun i k h => by simp at h) i k hi hk
theorem befs_lt {ops : Array Oper} (he : ∀ j o, ops[j]? = some o → ∀ e ∈ o.after.toList, Region.binds .any e = true → e.on < j) : ∀ (l : List Oper) (acc : List Nat), (∀ j, l[j]? = ops[acc.length + j]?) →
    (∀ i k, i < acc.length → (acc.getD i 0).testBit k = true → k < i) → ∀ i k, ((befs l acc).getD i 0).testBit k = true → k < i
  | [], acc, _, ha, i, k, hk => by
    simp only [befs] at hk
    rcases Nat.lt_or_ge i acc.length with h | h
    · exact ha i k h hk
    · rw [List.getD_eq_getElem?_getD, List.getElem?_eq_none h] at hk
      simp at hk
  | o :: l, acc, hl, ha, i, k, hk => by
    simp only [befs] at hk
    refine befs_lt he l _ (fun j => ?_) ?_ i k hk
    · have := hl (j + 1)
      simp only [List.getElem?_cons_succ] at this
      rw [this]
      congr 1
      simp
      omega
    · intro i k hlt hbit
      rcases Nat.lt_or_ge i acc.length with h | h
      · rw [List.getD_eq_getElem?_getD, List.getElem?_append_left h, ← List.getD_eq_getElem?_getD] at hbit
        exact ha i k h hbit
      · have hie : i = acc.length := by simp at hlt; omega
        subst hie
        rw [List.getD_eq_getElem?_getD, List.getElem?_append_right (Nat.le_refl _)] at hbit
        simp only [Nat.sub_self, List.getElem?_cons_zero, Option.getD_some] at hbit
        have ho : ops[acc.length]? = some o := by have := hl 0; simpa using this.symm
        rcases fold_bits acc k _ _ hbit with h1 | ⟨e, hm, hb, h2⟩
        · simp at h1
        · have hlt := he _ o ho e hm hb
          rcases h2 with rfl | h2
          · exact hlt
          · have := ha _ _ hlt h2
            omega
structure PairOk (ops : Array Oper) (B : List Nat) : Prop where
  edge : ∀ j o, ops[j]? = some o → ∀ e ∈ o.after.toList, Region.binds .any e = true → e.on < j
  pair : ∀ i j x y, i < j → ops[i]? = some x → ops[j]? = some y → (B.getD j 0).testBit i = true ∨ (Oper.apart ops x y = true ∧ ¬ (isEffB x.op = true ∧ isEffB y.op = true))
theorem regionOk_spec {ops : Array Oper} {B : List Nat} (h : regionOk ops B = true) : PairOk ops B := by
  unfold regionOk at h
  rw [List.all_eq_true] at h
  have lt : ∀ j o, ops[j]? = some o → j < ops.size := by
    intro j o ho
    exact (Array.getElem?_eq_some_iff.1 ho).1
  constructor
  · intro j o ho e he hb
    have := h j (List.mem_range.2 (lt j o ho))
    simp only [ho, Bool.and_eq_true, List.all_eq_true, Bool.or_eq_true, Bool.not_eq_true', decide_eq_true_eq] at this
    rcases this.1 e he with h1 | h1
    · rw [hb] at h1; cases h1
    · exact h1
  · intro i j x y hij hx hy
    have := h j (List.mem_range.2 (lt j y hy))
    simp only [Bool.and_eq_true, List.all_eq_true] at this
    have := this.2 i (List.mem_range.2 hij)
    unfold pairOk at this
    rw [hx, hy] at this
    simp only [Bool.or_eq_true, Bool.and_eq_true, Bool.not_eq_true', Bool.and_eq_false_iff] at this
    rcases this with h1 | ⟨h1, h2⟩
    · exact .inl h1
    · refine .inr ⟨h1, fun ⟨h3, h4⟩ => ?_⟩
      rcases h2 with h2 | h2
      · rw [h3] at h2; cases h2
      · rw [h4] at h2; cases h2
inductive DStep (S : AStat) (call : CallF) (lo n0 : Nat) (ops : Array Oper) (B : List Nat) (reads : List (Nat × Nat)) (touches : List (Nat × Option (List Nat))) (k : Nat) (o : Oper) (ρ : List AVal) (H : Heap) (ρ' : List AVal) (H' : Heap) : Prop where
  | skip (hg : guardA ops.toList ρ o = some false) (hρ : ρ' = putA ρ o.dst undefA) (hH : H' = H)
  | new (hg : guardA ops.toList ρ o = some true) (hn : isNewB o.op = true) (blk : ABlk) (mk : Nat → AVal) (h : newA S ρ o.op = some (blk, mk)) (hd : H[n0 + k]? = some none)
      (hρ : ρ' = putA ρ o.dst (mk (n0 + k))) (hH : H' = H.set (n0 + k) (some blk))
  | eff (hg : guardA ops.toList ρ o = some true) (hn : isNewB o.op = false) (he : isEffB o.op = true) (v : AVal) (H1 : Heap) (h : effA S call lo ρ (hide H (hidden ops B n0 k)) o.op = some (v, H1)) (hl : H.length ≤ H1.length)
      (hρ : ρ' = putA ρ o.dst v) (hH : H' = unhide H H1 (hidden ops B n0 k)) (ht : (k, touchD S ρ o.op (hide H (hidden ops B n0 k)) H1) ∈ touches)
  | quiet (hg : guardA ops.toList ρ o = some true) (hn : isNewB o.op = false) (he : isEffB o.op = false) (v : AVal) (h : quietA S ρ H o.op = some v) (hρ : ρ' = putA ρ o.dst v) (hH : H' = H)
      (hr : ∀ b, readsA S ρ o.op = some b → (k, b) ∈ reads)
theorem DStep.more {S : AStat} {call : CallF} {lo n0 : Nat} {ops : Array Oper} {B : List Nat} {reads reads' : List (Nat × Nat)} {touches touches' : List (Nat × Option (List Nat))} {k : Nat} {o : Oper} {ρ ρ' : List AVal} {H H' : Heap}
    (hr : ∀ x ∈ reads, x ∈ reads') (ht : ∀ x ∈ touches, x ∈ touches') (h : DStep S call lo n0 ops B reads touches k o ρ H ρ' H') : DStep S call lo n0 ops B reads' touches' k o ρ H ρ' H' := by
  cases h with
  | skip a b c => exact .skip a b c
  | new a b c d e f g h => exact .new a b c d e f g h
  | eff a b c d e f l g h i => exact .eff a b c d e f l g h (ht _ i)
  | quiet a b c d e f g h => exact .quiet a b c d e f g fun x hx => hr _ (h x hx)
theorem drawGo_trace {S : AStat} {call : CallF} {lo n0 : Nat} {ops : Array Oper} {B : List Nat} : ∀ (l : List Oper) (k : Nat) (ρ : List AVal) (H : Heap) (r : DrawOut), drawGo S call lo n0 ops B l k ρ H = some r →
    (∀ j, l[j]? = ops[k + j]?) → k + l.length = ops.size →
    ∃ (ρs : Nat → List AVal) (Hs : Nat → Heap), ρs k = ρ ∧ Hs k = H ∧ ρs ops.size = r.ρ ∧ Hs ops.size = r.H ∧
      ∀ j o, k ≤ j → ops[j]? = some o → DStep S call lo n0 ops B r.reads r.touches j o (ρs j) (Hs j) (ρs (j + 1)) (Hs (j + 1))
  | [], k, ρ, H, r, h, hl, hs => by
    simp only [drawGo, Option.some.injEq] at h
    subst h
    simp only [List.length_nil, Nat.add_zero] at hs
    subst hs
    refine ⟨fun _ => ρ, fun _ => H, rfl, rfl, rfl, rfl, fun j o hj ho => ?_⟩
    have := (Array.getElem?_eq_some_iff.1 ho).1
    omega
  | o :: l, k, ρ, H, r, h, hl, hs => by
    have ho : ops[k]? = some o := by have := hl 0; simpa using this.symm
    have hl' : ∀ j, l[j]? = ops[k + 1 + j]? := fun j => by have := hl (j + 1); simp only [List.getElem?_cons_succ] at this; rw [this]; congr 1; omega
    have hs' : k + 1 + l.length = ops.size := by simp at hs; omega
    have build : ∀ (ρ1 : List AVal) (H1 : Heap) (r1 : DrawOut), drawGo S call lo n0 ops B l (k + 1) ρ1 H1 = some r1 → r1.ρ = r.ρ → r1.H = r.H → (∀ x ∈ r1.reads, x ∈ r.reads) → (∀ x ∈ r1.touches, x ∈ r.touches) →
        DStep S call lo n0 ops B r.reads r.touches k o ρ H ρ1 H1 →
        ∃ (ρs : Nat → List AVal) (Hs : Nat → Heap), ρs k = ρ ∧ Hs k = H ∧ ρs ops.size = r.ρ ∧ Hs ops.size = r.H ∧
          ∀ j o, k ≤ j → ops[j]? = some o → DStep S call lo n0 ops B r.reads r.touches j o (ρs j) (Hs j) (ρs (j + 1)) (Hs (j + 1)) := by
      intro ρ1 H1 r1 hgo e1 e2 hr ht hd
      obtain ⟨ρs, Hs, g1, g2, g3, g4, g5⟩ := drawGo_trace l (k + 1) ρ1 H1 r1 hgo hl' hs'
      have hk : k < ops.size := (Array.getElem?_eq_some_iff.1 ho).1
      refine ⟨fun j => if j = k then ρ else ρs j, fun j => if j = k then H else Hs j, by simp, by simp, ?_, ?_, ?_⟩
      · simp only
        rw [if_neg (by omega), g3, e1]
      · simp only
        rw [if_neg (by omega), g4, e2]
      · intro j o' hj ho'
        by_cases hjk : j = k
        · subst hjk
          rw [ho] at ho'
          cases ho'
          simp only [if_true]
          rw [if_neg (by omega), if_neg (by omega), g1, g2]
          exact hd
        · simp only
          rw [if_neg hjk, if_neg hjk, if_neg (by omega), if_neg (by omega)]
          exact (g5 j o' (by omega) ho').more hr ht
    simp only [drawGo] at h
    split at h
    · cases h
    · rename_i hg
      exact build _ _ r h rfl rfl (fun _ h => h) (fun _ h => h) (.skip hg rfl rfl)
    · rename_i hg
      split at h
      · rename_i hn
        split at h
        · cases h
        · rename_i blk mk hnew
          split at h
          · rename_i hd
            exact build _ _ r h rfl rfl (fun _ h => h) (fun _ h => h) (.new hg hn blk mk hnew hd rfl rfl)
          · cases h
      · rename_i hn
        simp only [Bool.not_eq_true] at hn
        split at h
        · rename_i he
          split at h
          · cases h
          · rename_i v H1 heff
            split at h
            · rename_i hlen
              split at h
              · cases h
              · rename_i r1 hgo
                simp only [Option.some.injEq] at h
                subst h
                exact build _ _ r1 hgo rfl rfl (fun _ h => h) (fun _ h => List.mem_cons_of_mem _ h) (.eff hg hn he v H1 heff hlen rfl rfl (List.mem_cons_self ..))
            · cases h
        · rename_i he
          simp only [Bool.not_eq_true] at he
          split at h
          · cases h
          · rename_i v hq
            split at h
            · cases h
            · rename_i r1 hgo
              split at h
              · rename_i hrd
                simp only [Option.some.injEq] at h
                subst h
                exact build _ _ r1 hgo rfl rfl (fun _ h => h) (fun _ h => h) (.quiet hg hn he v hq rfl rfl (fun b hb => by rw [hrd] at hb; cases hb))
              · rename_i b hrd
                simp only [Option.some.injEq] at h
                subst h
                refine build _ _ r1 hgo rfl rfl (fun _ h => List.mem_cons_of_mem _ h) (fun _ h => h) (.quiet hg hn he v hq rfl rfl (fun b' hb => ?_))
                rw [hrd] at hb
                cases hb
                exact List.mem_cons_self ..
def CallStill (S : AStat) (call : CallF) : Prop := ∀ lo g args H r H', stillB S g = true → call lo g args H = some (r, H') → H.length ≤ H'.length ∧ ∀ b, b < H.length → H'[b]? = H[b]?
theorem callA_still (S : AStat) {rec : ExecF} (hL : RecLow rec) : CallStill S (callA S rec) := by
  intro lo g args H r H' hh h
  rw [stillB, Bool.or_eq_true, Bool.and_eq_true, Bool.or_eq_true, beq_iff_eq, beq_iff_eq] at hh
  rcases hh with hq | ⟨hh, hp | hp⟩
  · obtain ⟨hk, h1, h2⟩ := S.quietOk g hq
    simp only [callA, h1] at h
    rw [h2 _ _ _ _ _ h]
    exact ⟨Nat.le_refl _, fun _ _ => rfl⟩
  · unfold callA at h
    split at h
    · rename_i hk hhk
      rw [hhk] at hh
      cases hh
    · split at h
      · cases h
      · split at h
        · cases h
        · split at h
          · cases h
          · cases h
          · split at h
            · cases h
            · rw [hp] at h
              simp only [finish] at h
              rw [Option.map_eq_some_iff] at h
              obtain ⟨_, _, h2⟩ := h
              simp only [Prod.mk.injEq] at h2
              rw [← h2.2]
              exact ⟨Nat.le_refl _, fun _ _ => rfl⟩
  · exact callA_fresh hL hh hp h
set_option maxHeartbeats 1000000 in
theorem eff_keeps {S : AStat} {call : CallF} (hC : CallStill S call) {lo : Nat} {ρ : List AVal} {H H1 : Heap} {op : Op} {v : AVal} {l : List Nat} (h : effA S call lo ρ H op = some (v, H1)) (ht : touchA S ρ op = some l) :
    H.length ≤ H1.length ∧ ∀ b, b < H.length → b ∉ l → H1[b]? = H[b]? := by
  have setk : ∀ (H : Heap) (x b : Nat) (y : Option ABlk), b ≠ x → (H.set x y)[b]? = H[b]? := fun H x b y hb => by rw [List.getElem?_set, if_neg (fun e => hb e.symm)]
  have upd : ∀ {t : TypeId} {m k y : AVal} {H1 : Heap}, mapUpdateA S.P lo t H m k y = some H1 → (blkOf m).toList = l → H.length ≤ H1.length ∧ ∀ b, b < H.length → b ∉ l → H1[b]? = H[b]? := by
    intro t m k y H1 h hl
    unfold mapUpdateA at h
    (repeat' split at h) <;> first
      | (cases h; done)
      | (simp only [Option.some.injEq] at h
         subst h
         simp only [blkOf, Option.toList_some] at hl
         subst hl
         exact ⟨by simp, fun b _ hb => setk _ _ _ _ (by simpa using hb)⟩)
  unfold effA at h
  split at h
  · rename_i t x y
    rw [Option.map_eq_some_iff] at h
    obtain ⟨H2, h1, h2⟩ := h
    simp only [Prod.mk.injEq] at h2
    obtain ⟨rfl, rfl⟩ := h2
    simp only [touchA, Option.some.injEq] at ht
    unfold storeA at h1
    split at h1
    · rename_i b off e
      rw [e] at ht
      simp only [blkOf, Option.toList_some] at ht
      subst ht
      split at h1
      · split at h1
        · simp only [Option.some.injEq] at h1
          subst h1
          exact ⟨by simp, fun b _ hb => setk _ _ _ _ (by simpa using hb)⟩
        · cases h1
      · cases h1
    · cases h1
  · rw [Option.map_eq_some_iff] at h
    obtain ⟨H2, h1, h2⟩ := h
    simp only [Prod.mk.injEq] at h2
    obtain ⟨rfl, rfl⟩ := h2
    simp only [touchA, Option.some.injEq] at ht
    exact upd h1 ht
  · rw [Option.map_eq_some_iff] at h
    obtain ⟨H2, h1, h2⟩ := h
    simp only [Prod.mk.injEq] at h2
    obtain ⟨rfl, rfl⟩ := h2
    simp only [touchA, Option.some.injEq] at ht
    exact upd h1 ht
  · rename_i x isString
    simp only [touchA, Option.some.injEq] at ht
    generalize evalA S ρ x = a at h ht
    unfold nextA at h
    (repeat' split at h) <;> first
      | (cases h; done)
      | (simp only [blkOf, Option.toList_some] at ht
         subst ht
         simp only [Option.some.injEq, Prod.mk.injEq] at h
         obtain ⟨_, rfl⟩ := h
         first
          | exact ⟨Nat.le_refl _, fun _ _ _ => rfl⟩
          | exact ⟨by simp, fun b _ hb => setk _ _ _ _ (by simpa using hb)⟩)
  · cases ht
  · cases ht
  · cases ht
  · rename_i args ts
    split at h
    · rename_i s x t u e1 e2
      have h0 : ∃ o0, args[0]? = some o0 ∧ evalA S ρ o0 = s := by
        cases hargs : args.toList with
        | nil => rw [hargs] at e1; simp at e1
        | cons o0 rest =>
          rw [hargs] at e1
          simp only [List.map_cons, List.cons.injEq] at e1
          refine ⟨o0, ?_, e1.1⟩
          have : args.toList[0]? = some o0 := by rw [hargs]; rfl
          simpa using this
      obtain ⟨o0, h1, h2⟩ := h0
      simp only [touchA, h1, h2] at ht
      unfold appendA at h
      (repeat' split at h) <;> first
        | (cases h; done)
        | (simp only at h; cases h; done)
        | (simp only at h
           (repeat' split at h) <;> first
            | (cases h; done)
            | (simp only [Option.some.injEq, Prod.mk.injEq] at h
               obtain ⟨_, rfl⟩ := h
               first
                | exact ⟨Nat.le_refl _, fun b _ _ => rfl⟩
                | exact ⟨by simp, fun b hb _ => List.getElem?_append_left hb⟩
                | (simp only [Option.some.injEq] at ht
                   subst ht
                   exact ⟨by simp, fun b _ hb => setk _ _ _ _ (by simpa using hb)⟩)
                | (simp only [Option.some.injEq] at ht
                   subst ht
                   exact ⟨by simp, fun b hb hb2 => by rw [List.getElem?_append_left (by simpa using hb)]; exact setk _ _ _ _ (by simpa using hb2)⟩)))
    · cases h
  · rename_i f args ts
    split at h
    · rename_i g first captured e
      simp only [touchA, e] at ht
      split at ht
      · rename_i hg
        split at h
        · simp only [Option.some.injEq, Prod.mk.injEq] at h
          obtain ⟨_, rfl⟩ := h
          exact ⟨Nat.le_refl _, fun _ _ _ => rfl⟩
        · have := hC _ _ _ _ _ _ hg h
          exact ⟨this.1, fun b hb _ => this.2 b hb⟩
      · cases ht
    · cases h
  · simp only [touchA] at ht
    cases ht
  · cases h
theorem samePs_ok : ∀ {as bs : List AVal}, samePs as bs = true → as = bs
  | [], [], _ => rfl
  | [], _ :: _, h => by simp [samePs] at h
  | a :: as, [], h => by cases a <;> simp [samePs] at h
  | a :: as, b :: bs, h => by
    cases a <;> cases b <;> simp only [samePs] at h <;> try cases h
    · simp only [Bool.and_eq_true, decide_eq_true_eq] at h
      obtain ⟨⟨rfl, rfl⟩, h⟩ := h
      rw [samePs_ok h]
    · simp only [Bool.and_eq_true, Nat.beq_eq] at h
      obtain ⟨⟨rfl, rfl⟩, h⟩ := h
      rw [samePs_ok h]
    · rw [samePs_ok h]
    · simp only [Bool.and_eq_true, Nat.beq_eq, beq_iff_eq] at h
      obtain ⟨⟨⟨⟨⟨⟨rfl, rfl⟩, rfl⟩, rfl⟩, rfl⟩, rfl⟩, h⟩ := h
      rw [samePs_ok h]
theorem sameB_ok {x y : Option (Option ABlk)} (h : sameB x y = true) : x = y := by
  unfold sameB at h
  split at h
  · rw [samePs_ok h]
  · cases h
theorem touchD_keeps {S : AStat} {call : CallF} (hC : CallStill S call) {lo : Nat} {ρ : List AVal} {H H1 : Heap} {op : Op} {v : AVal} {l : List Nat} (h : effA S call lo ρ H op = some (v, H1)) (hl : H.length ≤ H1.length) (ht : touchD S ρ op H H1 = some l) :
    H.length ≤ H1.length ∧ ∀ b, b < H.length → b ∉ l → H1[b]? = H[b]? := by
  unfold touchD at ht
  split at ht
  · rename_i l' e
    cases ht
    exact eff_keeps hC h e
  · cases ht
    refine ⟨hl, fun b hb hn => ?_⟩
    have : sameB H[b]? H1[b]? = true := by
      cases hs : sameB H[b]? H1[b]? with
      | true => rfl
      | false => exact (hn (List.mem_filter.2 ⟨List.mem_range.2 hb, by simp only [hs]; rfl⟩)).elim
    exact (sameB_ok this).symm
theorem quiet_local {S : AStat} {ρ : List AVal} {H H' : Heap} {op : Op} (h : ∀ b, readsA S ρ op = some b → H'[b]? = H[b]?) : quietA S ρ H' op = quietA S ρ H op := by
  have hat : ∀ x, (∀ b, blkOf x = some b → H'[b]? = H[b]?) → atA H' x = atA H x := by
    intro x hx
    cases x <;> simp only [atA]
    rw [hx _ rfl]
  unfold quietA
  split <;> try rfl
  · rename_i t x
    simp only [loadA]
    rw [hat _ h]
  · rename_i s d x
    have hx : ∀ sz b off len cap ex, evalA S ρ x = .sl sz b off len cap ex → H'[b]? = H[b]? := fun sz b off len cap ex e => h b (by simp only [readsA, e, slBlk])
    unfold convHA
    split
    · rfl
    · unfold strOfA
      split <;> try rfl
      split <;> try rfl
      rename_i sz b off len cap ex _ e
      rw [hx _ b _ _ _ _ e]
  · rename_i t x lo hi mx
    have hx : ∀ b off, evalA S ρ x = .ptr b off → H'[b]? = H[b]? := fun b off e => h b (by simp only [readsA, e, blkOf])
    unfold sliceA
    split <;> try rfl
    split <;> try rfl
    split <;> try rfl
    rename_i b off e
    rw [hx b off e]
  · rename_i t m x ok
    have hx : ∀ b, evalA S ρ m = .mapr b → H'[b]? = H[b]? := fun b e => h b (by simp only [readsA, e, blkOf])
    unfold lookupA
    split <;> try rfl
    split <;> try rfl
    split <;> try rfl
    split <;> try rfl
    rename_i b e
    rw [hx b e]
  · rename_i args ts
    split <;> try rfl
    rename_i t x ht hx
    have hx' : ∀ b, evalA S ρ x = .mapr b → H'[b]? = H[b]? := fun b e => h b (by simp only [readsA, hx, e])
    unfold lenA
    split <;> try rfl
    rename_i b e2 e
    rw [hx' b e]
theorem slice_dead {P : Program} {t : TypeId} {H : Heap} {b off : Nat} {lo hi mx : Option AVal} (hd : ∀ blk, H[b]? ≠ some (some blk)) : sliceA P t H (.ptr b off) lo hi mx = none := by
  unfold sliceA
  split
  · split <;> first | contradiction | rfl
  · split
    · split <;> first | contradiction | rfl
    · rfl
  · split
    · cases hh : H[b]? with
      | none => simp [hh]
      | some o => cases o with
        | none => simp [hh]
        | some blk => exact absurd hh (hd blk)
    · rfl
  · rfl
theorem slice_map {P : Program} {t : TypeId} {H : Heap} {b : Nat} {lo hi mx : Option AVal} : sliceA P t H (.mapr b) lo hi mx = none := by
  unfold sliceA
  split
  · split <;> first | contradiction | rfl
  · split
    · split <;> first | contradiction | rfl
    · rfl
  · split
    · split <;> first | contradiction | rfl
    · rfl
  · rfl
theorem lookup_dead {P : Program} {t : TypeId} {H : Heap} {b : Nat} {x : AVal} {ok : Bool} (hd : ∀ blk, H[b]? ≠ some (some blk)) : lookupA P t H (.mapr b) x ok = none := by
  unfold lookupA
  split
  · split
    · split
      · split
        all_goals first
          | contradiction
          | rfl
          | (cases hh : H[b]? with
            | none => simp_all
            | some o => cases o with
              | none => simp_all
              | some blk => exact absurd hh (hd blk))
      · rfl
    · rfl
  · rfl
theorem lookup_ptr {P : Program} {t : TypeId} {H : Heap} {b off : Nat} {x : AVal} {ok : Bool} : lookupA P t H (.ptr b off) x ok = none := by
  unfold lookupA
  split
  · split
    · split
      · split <;> first | contradiction | rfl
      · rfl
    · rfl
  · rfl
theorem len_dead {P : Program} {t : TypeId} {H : Heap} {b : Nat} (hd : ∀ blk, H[b]? ≠ some (some blk)) : lenA P t H (.mapr b) = none := by
  unfold lenA
  split <;> first
    | contradiction
    | rfl
    | (rename_i hne _; exact absurd rfl (hne _))
    | skip
  all_goals (cases hh : H[b]? with
    | none => simp_all
    | some o => cases o with
      | none => simp_all
      | some blk => exact absurd hh (hd blk))
theorem quiet_live {S : AStat} {ρ : List AVal} {H : Heap} {op : Op} {v : AVal} {b : Nat} (h : quietA S ρ H op = some v) (hb : readsA S ρ op = some b) : ∃ blk, H[b]? = some (some blk) := by
  have ptr : ∀ x, blkOf x = some b → (∃ off, x = .ptr b off) ∨ x = .mapr b := by
    intro x hx
    cases x <;> simp only [blkOf, Option.some.injEq] at hx <;> first | (cases hx; done) | (subst hx; first | exact .inl ⟨_, rfl⟩ | exact .inr rfl)
  by_cases hd : ∃ blk, H[b]? = some (some blk)
  · exact hd
  · exfalso
    have hd' : ∀ blk, H[b]? ≠ some (some blk) := fun blk e => hd ⟨blk, e⟩
    unfold readsA at hb
    split at hb
    · rename_i t x
      simp only [quietA, loadA] at h
      rw [Option.bind_eq_some_iff] at h
      obtain ⟨cs, h1, _⟩ := h
      rcases ptr _ hb with ⟨off, e⟩ | e <;> rw [e] at h1 <;> simp only [atA] at h1
      · split at h1
        · rename_i cs' hc; exact hd' _ hc
        · cases h1
      · cases h1
    · rename_i t m x ok
      simp only [quietA] at h
      rcases ptr _ hb with ⟨off, e⟩ | e <;> rw [e] at h
      · rw [lookup_ptr] at h; cases h
      · rw [lookup_dead hd'] at h; cases h
    · rename_i t x lo hi mx
      simp only [quietA] at h
      rcases ptr _ hb with ⟨off, e⟩ | e <;> rw [e] at h
      · rw [slice_dead hd'] at h; cases h
      · rw [slice_map] at h; cases h
    · rename_i s d x
      simp only [quietA] at h
      cases e : evalA S ρ x <;> rw [e] at hb <;> simp only [slBlk, Option.some.injEq] at hb <;> first | (cases hb; done) | skip
      subst hb
      rw [e] at h
      unfold convHA at h
      split at h
      · rename_i hc
        unfold convA at hc
        (repeat' split at hc) <;> first | (cases hc; done) | contradiction
      · unfold strOfA at h
        split at h
        · split at h
          · contradiction
          · contradiction
          · rename_i e2
            cases e2
            split at h
            · split at h
              · rename_i hc; exact hd' _ hc
              · cases h
            · cases h
          · cases h
        · cases h
    · rename_i args ts
      simp only [quietA] at h
      split at hb
      · rename_i x hx
        split at hb
        · rename_i b' e
          cases hb
          rw [hx] at h
          split at h
          · rename_i t x' ht hx'
            cases hx'
            rw [e] at h
            rw [len_dead hd'] at h; cases h
          · cases h
        · cases hb
      · cases hb
    · cases hb
end Go.Am

/- That a region whose order is open keeps to the idealised one, in whatever order: what holds on the way. Generic: over any program. -/
namespace Go.Am
set_option linter.unusedVariables false
open Go.RowKit
structure Tra (S : AStat) (call : CallF) (lo n0 : Nat) (ops : Array Oper) (B : List Nat) (reads : List (Nat × Nat)) (touches : List (Nat × Option (List Nat))) (ρs : Nat → List AVal) (Hs : Nat → Heap) : Prop where
  step : ∀ j o, ops[j]? = some o → DStep S call lo n0 ops B reads touches j o (ρs j) (Hs j) (ρs (j + 1)) (Hs (j + 1))
  pair : PairOk ops B
  bits : Bits ops B
  lt : ∀ i k, (B.getD i 0).testBit k = true → k < i
  apart : apartB B reads touches = true
  still : CallStill S call
  wide : ∀ m, m < ops.size → newAt ops m = true → n0 + m < (Hs 0).length
variable {S : AStat} {call : CallF} {lo n0 : Nat} {ops : Array Oper} {B : List Nat} {reads : List (Nat × Nat)} {touches : List (Nat × Option (List Nat))} {ρs : Nat → List AVal} {Hs : Nat → Heap}
theorem putA_length (ρ : List AVal) (d : Option Tmp) (v : AVal) : (putA ρ d v).length = ρ.length := by cases d <;> simp [putA]
theorem putA_other (ρ : List AVal) (d : Option Tmp) (v : AVal) (s : Nat) (h : d ≠ some s) : (putA ρ d v).getD s undefA = ρ.getD s undefA := by
  cases d with
  | none => rfl
  | some d =>
    have : d ≠ s := fun e => h (by rw [e])
    simp only [putA, List.getD_eq_getElem?_getD, List.getElem?_set, if_neg this]
theorem Tra.put (T : Tra S call lo n0 ops B reads touches ρs Hs) {j : Nat} {o : Oper} (ho : ops[j]? = some o) : ∃ v, ρs (j + 1) = putA (ρs j) o.dst v := by
  cases T.step j o ho with
  | skip _ h _ => exact ⟨_, h⟩
  | new _ _ _ _ _ _ h _ => exact ⟨_, h⟩
  | eff _ _ _ _ _ _ _ h _ _ => exact ⟨_, h⟩
  | quiet _ _ _ _ _ h _ _ => exact ⟨_, h⟩
theorem Tra.slot (T : Tra S call lo n0 ops B reads touches ρs Hs) (s : Nat) : ∀ (d p : Nat), p + d ≤ ops.size → (∀ j, p ≤ j → j < p + d → dstAt ops j ≠ some s) → (ρs (p + d)).getD s undefA = (ρs p).getD s undefA
  | 0, p, _, _ => rfl
  | d + 1, p, hn, h => by
    have hlt : p + d < ops.size := by omega
    obtain ⟨v, hv⟩ := T.put (j := p + d) (o := ops[p + d]) (by simp [hlt])
    rw [show p + (d + 1) = p + d + 1 by omega, hv, putA_other _ _ _ _ (by have := h (p + d) (by omega) (by omega); simpa [dstAt, hlt] using this)]
    exact T.slot s d p (by omega) fun j h1 h2 => h j h1 (by omega)
theorem Tra.len (T : Tra S call lo n0 ops B reads touches ρs Hs) : ∀ k, k ≤ ops.size → (ρs k).length = (ρs 0).length
  | 0, _ => rfl
  | k + 1, h => by
    obtain ⟨v, hv⟩ := T.put (j := k) (o := ops[k]'(by omega)) (by simp [show k < ops.size by omega])
    rw [hv, putA_length]
    exact T.len k (by omega)
def newW (S : AStat) (ops : Array Oper) (ρs : Nat → List AVal) (j : Nat) : Bool :=
  match ops[j]? with
  | some o => isNewB o.op && guardA ops.toList (ρs j) o == some true
  | none => false
def isN (S : AStat) (ops : Array Oper) (ρs : Nat → List AVal) (n0 b : Nat) : Bool := decide (n0 ≤ b) && newW S ops ρs (b - n0)
def Keep (Hs : Nat → Heap) (j b : Nat) : Prop := b < (Hs j).length → (Hs (j + 1))[b]? = (Hs j)[b]? ∧ b < (Hs (j + 1)).length
theorem keep_chain (b : Nat) : ∀ (d p : Nat), b < (Hs p).length → (∀ j, p ≤ j → j < p + d → Keep Hs j b) → (Hs (p + d))[b]? = (Hs p)[b]? ∧ b < (Hs (p + d)).length
  | 0, p, h, _ => ⟨rfl, h⟩
  | d + 1, p, h, hk => by
    obtain ⟨h1, h2⟩ := keep_chain b d p h fun j g1 g2 => hk j g1 (by omega)
    obtain ⟨h3, h4⟩ := hk (p + d) (by omega) (by omega) h2
    exact ⟨h3.trans h1, h4⟩
theorem keep_chain' {b p q : Nat} (hpq : p ≤ q) (h : b < (Hs p).length) (hk : ∀ j, p ≤ j → j < q → Keep Hs j b) : (Hs q)[b]? = (Hs p)[b]? ∧ b < (Hs q).length := by
  have := keep_chain (Hs := Hs) b (q - p) p h fun j h1 h2 => hk j h1 (by omega)
  rwa [show p + (q - p) = q by omega] at this
theorem Tra.keep_calm (T : Tra S call lo n0 ops B reads touches ρs Hs) {j b : Nat} (hj : j < ops.size) (he : effAt ops j = false) (hn : newW S ops ρs j = true → b ≠ n0 + j) : Keep Hs j b := by
  intro hb
  have ho : ops[j]? = some ops[j] := by simp [hj]
  cases T.step j _ ho with
  | skip _ _ h => rw [h]; exact ⟨rfl, hb⟩
  | new hg hnw _ _ _ _ _ h =>
    have : newW S ops ρs j = true := by simp [newW, ho, hnw, hg]
    rw [h]
    exact ⟨by rw [List.getElem?_set, if_neg (fun e => hn this e.symm)], by simpa using hb⟩
  | eff _ _ h _ _ _ _ _ _ _ => simp [effAt, ho] at he; rw [he] at h; cases h
  | quiet _ _ _ _ _ _ h _ => rw [h]; exact ⟨rfl, hb⟩
theorem Tra.keep_hidden (T : Tra S call lo n0 ops B reads touches ρs Hs) {j m : Nat} (hj : j < ops.size) (he : effAt ops j = true) (hm : m < ops.size) (hn : newAt ops m = true) (hb : (B.getD j 0).testBit m = false) : Keep Hs j (n0 + m) := by
  intro hl
  have ho : ops[j]? = some ops[j] := by simp [hj]
  cases T.step j _ ho with
  | skip _ _ h => rw [h]; exact ⟨rfl, hl⟩
  | new _ hnw _ _ _ _ _ _ =>
    simp [effAt, ho] at he
    exfalso
    generalize (ops[j]).op = op at *
    cases op <;> simp [isNewB, isEffB] at hnw he
  | eff _ _ _ v H1 _ hlen _ h _ =>
    rw [h]
    rw [unhide_length]
    rw [unhide_get, if_pos ⟨mem_hidden.2 ⟨m, hm, hn, hb, rfl⟩, by omega⟩]
    refine ⟨?_, by omega⟩
    rw [List.getD_eq_getElem?_getD, List.getElem?_eq_getElem hl]
    rfl
  | quiet _ _ hq _ _ _ _ _ => simp [effAt, ho] at he; rw [he] at hq; cases hq
theorem Tra.keep_far (T : Tra S call lo n0 ops B reads touches ρs Hs) {i j b : Nat} (hj : j < ops.size) (he : effAt ops j = true) (hr : (i, b) ∈ reads) (h1 : (B.getD i 0).testBit j = false) (h2 : (B.getD j 0).testBit i = false) : Keep Hs j b := by
  intro hl
  have ho : ops[j]? = some ops[j] := by simp [hj]
  cases T.step j _ ho with
  | skip _ _ h => rw [h]; exact ⟨rfl, hl⟩
  | new _ hnw _ _ _ _ _ _ =>
    simp [effAt, ho] at he
    exfalso
    generalize (ops[j]).op = op at *
    cases op <;> simp [isNewB, isEffB] at hnw he
  | eff _ _ _ v H1 heff hlen _ h ht =>
    have hap := T.apart
    unfold apartB at hap
    rw [List.all_eq_true] at hap
    have := hap _ hr
    rw [List.all_eq_true] at this
    have := this _ ht
    simp only [h1, h2, Bool.false_or] at this
    split at this
    · rename_i l hl'
      have hnl : b ∉ l := by simpa using this
      obtain ⟨g1, g2⟩ := touchD_keeps T.still heff (by rw [hide_length]; exact hlen) hl'
      rw [hide_length] at g1 g2
      rw [h, unhide_length, unhide_get]
      refine ⟨?_, by omega⟩
      split
      · rw [List.getD_eq_getElem?_getD, List.getElem?_eq_getElem hl]
        rfl
      · rename_i hnh
        rw [g2 b hl hnl, hide_get, if_neg]
        intro ⟨h3, _⟩
        exact hnh ⟨h3, by omega⟩
    · cases this
  | quiet _ _ hq _ _ _ _ _ => simp [effAt, ho] at he; rw [he] at hq; cases hq
theorem Tra.mono1 (T : Tra S call lo n0 ops B reads touches ρs Hs) {j : Nat} (hj : j < ops.size) : (Hs j).length ≤ (Hs (j + 1)).length := by
  cases T.step j _ (show ops[j]? = some ops[j] by simp [hj]) with
  | skip _ _ h => rw [h]; exact Nat.le_refl _
  | new _ _ _ _ _ _ _ h => rw [h]; simp
  | eff _ _ _ _ _ _ hl _ h _ => rw [h, unhide_length]; exact hl
  | quiet _ _ _ _ _ _ h _ => rw [h]; exact Nat.le_refl _
theorem Tra.mono (T : Tra S call lo n0 ops B reads touches ρs Hs) {p : Nat} : ∀ (q : Nat), p ≤ q → q ≤ ops.size → (Hs p).length ≤ (Hs q).length
  | 0, h, _ => by have : p = 0 := by omega
                  subst this; exact Nat.le_refl _
  | q + 1, h, hq => by
    rcases Nat.eq_or_lt_of_le h with h1 | h1
    · rw [h1]; exact Nat.le_refl _
    · exact Nat.le_trans (T.mono q (by omega) (by omega)) (T.mono1 (by omega))
theorem Tra.calm_len (T : Tra S call lo n0 ops B reads touches ρs Hs) : ∀ (d p : Nat), p + d ≤ ops.size → (∀ j, p ≤ j → j < p + d → effAt ops j = false) → (Hs (p + d)).length = (Hs p).length
  | 0, _, _, _ => rfl
  | d + 1, p, hn, h => by
    have hlt : p + d < ops.size := by omega
    have ih := T.calm_len d p (by omega) fun j h1 h2 => h j h1 (by omega)
    rw [← ih, show p + (d + 1) = p + d + 1 by omega]
    have he := h (p + d) (by omega) (by omega)
    have ho : ops[p + d]? = some ops[p + d] := by simp [hlt]
    cases T.step (p + d) _ ho with
    | skip _ _ h => rw [h]
    | new _ _ _ _ _ _ _ h => rw [h]; simp
    | eff _ _ h _ _ _ _ _ _ _ => simp [effAt, ho] at he; rw [he] at h; cases h
    | quiet _ _ _ _ _ _ h _ => rw [h]
def tm (S : AStat) (ops : Array Oper) (ρs : Nat → List AVal) (n0 tE b : Nat) : Nat := if isN S ops ρs n0 b then max tE (b - n0 + 1) else tE
def HD (S : AStat) (ops : Array Oper) (ρs : Nat → List AVal) (Hs : Nat → Heap) (n0 : Nat) (D : Nat → Bool) (tE : Nat) : Heap :=
  (List.range (Hs tE).length).map fun b => if isN S ops ρs n0 b && !D (b - n0) then none else (Hs (tm S ops ρs n0 tE b)).getD b none
theorem HD_length (D : Nat → Bool) (tE : Nat) : (HD S ops ρs Hs n0 D tE).length = (Hs tE).length := by simp [HD]
theorem HD_live {D : Nat → Bool} {tE b : Nat} {blk : ABlk} : (HD S ops ρs Hs n0 D tE)[b]? = some (some blk) ↔
    b < (Hs tE).length ∧ (isN S ops ρs n0 b = true → D (b - n0) = true) ∧ (Hs (tm S ops ρs n0 tE b))[b]? = some (some blk) := by
  unfold HD
  rcases Nat.lt_or_ge b (Hs tE).length with h | h
  · rw [List.getElem?_map, List.getElem?_range h]
    simp only [Option.map_some, h, true_and, Option.some.injEq]
    by_cases hn : isN S ops ρs n0 b = true
    · by_cases hD : D (b - n0) = true
      · simp only [hn, hD, Bool.not_true, Bool.and_false, Bool.false_eq_true, if_false, implies_true, true_and]
        rw [List.getD_eq_getElem?_getD]
        cases (Hs (tm S ops ρs n0 tE b))[b]? <;> simp
      · simp only [Bool.not_eq_true] at hD
        simp [hn, hD]
    · simp only [Bool.not_eq_true] at hn
      simp only [hn, Bool.false_and, Bool.false_eq_true, if_false, false_implies, true_and]
      rw [List.getD_eq_getElem?_getD]
      cases (Hs (tm S ops ρs n0 tE b))[b]? <;> simp
  · rw [List.getElem?_eq_none (by simpa using h)]
    simp
    omega
structure Inv (S : AStat) (lo n0 : Nat) (ops : Array Oper) (ρs : Nat → List AVal) (Hs : Nat → Heap) (c0 : Cx) (H0 : Heap) (D : Nat → Bool) (tE : Nat) (c : Cx) (a : Act) : Prop where
  tEn : tE ≤ ops.size
  eff : ∀ j, D j = true → effAt ops j = true → j < tE
  last : tE = 0 ∨ ∃ p, tE = p + 1 ∧ D p = true ∧ effAt ops p = true
  slots : ∀ s, ∃ t, t ≤ ops.size ∧ (t = 0 ∨ ∃ p, t = p + 1 ∧ D p = true ∧ dstAt ops p = some s) ∧ (∀ j, D j = true → dstAt ops j = some s → j < t) ∧ V c ((ρs t).getD s undefA) (a.tmps.getD s undef)
  size : a.tmps.size = (ρs 0).length
  rel : Rel c (HD S ops ρs Hs n0 D tE)
  tr : Tr c0 H0 c (HD S ops ρs Hs n0 D tE)
  low : Low lo c0 H0 c (HD S ops ρs Hs n0 D tE)
  undone : ∀ m, newW S ops ρs m = true → D m = false → c.ι (n0 + m) = none
  defers : a.defers = []
  down : ∀ i o, ops[i]? = some o → D i = true → ∀ e ∈ o.after.toList, Region.binds .any e = true → D e.on = true
  dlt : ∀ i, D i = true → i < ops.size
  glob : GlobOk S c
  base : H0.length ≤ n0
structure Ready (ops : Array Oper) (D : Nat → Bool) (i : Nat) (o : Oper) : Prop where
  op : ops[i]? = some o
  not : D i = false
  pre : ∀ e ∈ o.after.toList, Region.binds .any e = true → D e.on = true
theorem Ready.bit {D : Nat → Bool} {i : Nat} {o : Oper} (hr : Ready ops D i o) (hb : Bits ops B) (hlt : ∀ i k, (B.getD i 0).testBit k = true → k < i)
    (down : ∀ i o, ops[i]? = some o → D i = true → ∀ e ∈ o.after.toList, Region.binds .any e = true → D e.on = true) {k : Nat} (hk : (B.getD i 0).testBit k = true) : D k = true := by
  have hi : i < ops.size := (Array.getElem?_eq_some_iff.1 hr.op).1
  have := hb (fun x => D x || x == i) (by
    intro x o' ho' hx e he hbd
    simp only [Bool.or_eq_true, beq_iff_eq] at hx ⊢
    rcases hx with hx | hx
    · exact .inl (down x o' ho' hx e he hbd)
    · subst hx
      rw [hr.op] at ho'
      cases ho'
      exact .inl (hr.pre e he hbd)) i k hi (by simp) hk
  simp only [Bool.or_eq_true, beq_iff_eq] at this
  rcases this with h | h
  · exact h
  · have := hlt i k hk
    omega
end Go.Am

/- That a region whose order is open keeps to the idealised one, in whatever order: the steps. Generic: over any program. -/
namespace Go.Am
open Go.RowKit
variable {S : AStat} {call : CallF} {lo n0 : Nat} {ops : Array Oper} {B : List Nat} {reads : List (Nat × Nat)} {touches : List (Nat × Option (List Nat))} {ρs : Nat → List AVal} {Hs : Nat → Heap}
variable {c0 c : Cx} {H0 : Heap} {D : Nat → Bool} {tE : Nat} {a : Act}
theorem Rel.sub {c : Cx} {H H2 : Heap} (hR : Rel c H) (hsub : ∀ (b : Nat) (blk : ABlk), H2[b]? = some (some blk) → H[b]? = some (some blk)) (hl : H.length ≤ H2.length) : Rel c H2 :=
  ⟨fun b blk h => hR.blk b blk (hsub b blk h), fun b b' x x' B y y' h h' => hR.inj b b' x x' B y y' (hsub b x h) (hsub b' x' h'), fun b hb => hR.fresh b (by omega), hR.lt⟩
theorem Tr.sub {c : Cx} {H H2 : Heap} (hsub : ∀ (b : Nat) (blk : ABlk), H2[b]? = some (some blk) → H[b]? = some (some blk)) : Tr c H c H2 :=
  ⟨Ext.refl c, Nat.le_refl _, fun _ _ _ => rfl, (fun B _ h => by obtain ⟨b, blk, base, h1, h2⟩ := h; exact ⟨b, blk, base, hsub b blk h1, h2⟩), fun _ _ h => .inl h, rfl, rfl, rfl⟩
theorem op_at {ops : Array Oper} {p : Nat} (h : p < ops.size) : ∃ x, ops[p]? = some x := ⟨ops[p], by simp [h]⟩
theorem newW_new {m : Nat} (h : newW S ops ρs m = true) : newAt ops m = true ∧ m < ops.size := by
  unfold newW at h
  unfold newAt
  cases ho : ops[m]? with
  | none => rw [ho] at h; cases h
  | some o =>
    rw [ho] at h
    simp only [Bool.and_eq_true] at h
    exact ⟨h.1, (Array.getElem?_eq_some_iff.1 ho).1⟩
theorem isN_spec {b : Nat} (h : isN S ops ρs n0 b = true) : n0 ≤ b ∧ newW S ops ρs (b - n0) = true := by
  simpa [isN] using h
theorem isN_of {m : Nat} (h : newW S ops ρs m = true) : isN S ops ρs n0 (n0 + m) = true := by
  simp [isN, h]
theorem new_not_eff {m : Nat} (h : newAt ops m = true) : effAt ops m = false := by
  unfold newAt at h
  unfold effAt
  cases ho : ops[m]? with
  | none => rfl
  | some o =>
    rw [ho] at h
    simp only at h ⊢
    generalize o.op = op at *
    cases op <;> simp [isNewB, isEffB] at h ⊢
theorem Inv.effs (T : Tra S call lo n0 ops B reads touches ρs Hs) (I : Inv S lo n0 ops ρs Hs c0 H0 D tE c a) {k : Nat} (hk : k < tE) (he : effAt ops k = true) : D k = true := by
  rcases I.last with h | ⟨p, h, hp, hpe⟩
  · omega
  · rcases Nat.eq_or_lt_of_le (show k ≤ p by omega) with h1 | h1
    · rw [h1]; exact hp
    · have hplt := I.dlt p hp
      have hok : ops[k]? = some ops[k] := by simp [show k < ops.size by omega]
      have hop : ops[p]? = some ops[p] := by simp [hplt]
      rcases T.pair.pair k p _ _ h1 hok hop with h2 | ⟨_, h2⟩
      · exact T.bits D I.down p k hplt hp h2
      · exact absurd ⟨by simpa [effAt, hok] using he, by simpa [effAt, hop] using hpe⟩ h2
theorem Inv.not_behind (T : Tra S call lo n0 ops B reads touches ρs Hs) (I : Inv S lo n0 ops ρs Hs c0 H0 D tE c a) {i : Nat} {o : Oper} (hr : Ready ops D i o) {j : Nat} (hj : D j = true) : (B.getD j 0).testBit i = false := by
  cases h : (B.getD j 0).testBit i with
  | false => rfl
  | true =>
    have := T.bits D I.down j i (I.dlt j hj) hj h
    rw [hr.not] at this
    cases this
theorem Inv.next (T : Tra S call lo n0 ops B reads touches ρs Hs) (I : Inv S lo n0 ops ρs Hs c0 H0 D tE c a) {i : Nat} {o : Oper} (hr : Ready ops D i o) (he : effAt ops i = true) : tE ≤ i ∧ ∀ k, k < i → effAt ops k = true → k < tE := by
  have hi : i < ops.size := (Array.getElem?_eq_some_iff.1 hr.op).1
  refine ⟨?_, ?_⟩
  · rcases I.last with h | ⟨p, h, hp, hpe⟩
    · omega
    · rcases Nat.lt_trichotomy p i with h1 | h1 | h1
      · omega
      · subst h1; rw [hr.not] at hp; cases hp
      · obtain ⟨y, hop⟩ := op_at (I.dlt p hp)
        rcases T.pair.pair i p _ _ h1 hr.op hop with h2 | ⟨_, h2⟩
        · rw [I.not_behind T hr hp] at h2; cases h2
        · exact absurd ⟨by simpa [effAt, hr.op] using he, by simpa [effAt, hop] using hpe⟩ h2
  · intro k hk hke
    have hok : ops[k]? = some ops[k] := by simp [show k < ops.size by omega]
    rcases T.pair.pair k i _ _ hk hok hr.op with h2 | ⟨_, h2⟩
    · exact I.eff k (hr.bit T.bits T.lt I.down h2) hke
    · exact absurd ⟨by simpa [effAt, hok] using hke, by simpa [effAt, hr.op] using he⟩ h2
theorem Inv.look (T : Tra S call lo n0 ops B reads touches ρs Hs) (I : Inv S lo n0 ops ρs Hs c0 H0 D tE c a) {i : Nat} {o : Oper} (hr : Ready ops D i o) {s : Nat} (hs : s ∈ o.looksAt ops) : V c ((ρs i).getD s undefA) (a.tmps.getD s undef) := by
  have hi : i < ops.size := (Array.getElem?_eq_some_iff.1 hr.op).1
  obtain ⟨t, h1, h2, h3, h4⟩ := I.slots s
  have hti : t ≤ i := by
    rcases h2 with h | ⟨p, h, hp, hd⟩
    · omega
    · rcases Nat.lt_trichotomy p i with g | g | g
      · omega
      · subst g; rw [hr.not] at hp; cases hp
      · obtain ⟨y, hop⟩ := op_at (I.dlt p hp)
        rcases T.pair.pair i p _ _ g hr.op hop with h5 | ⟨h5, _⟩
        · rw [I.not_behind T hr hp] at h5; cases h5
        · exact absurd hs ((Oper.apart_spec h5).2.2 s (by simpa [dstAt, hop] using hd))
  have := T.slot s (i - t) t (by omega) (by
    intro j hj1 hj2 hd
    have hjn : j < ops.size := by omega
    have hoj : ops[j]? = some ops[j] := by simp [hjn]
    have hji : j < i := by omega
    rcases T.pair.pair j i _ _ hji hoj hr.op with h5 | ⟨h5, _⟩
    · have := h3 j (hr.bit T.bits T.lt I.down h5) hd
      omega
    · exact (Oper.apart_spec h5).1 s (by simpa [dstAt, hoj] using hd) hs)
  rw [show t + (i - t) = i by omega] at this
  rw [this]
  exact h4
theorem Inv.evOn (T : Tra S call lo n0 ops B reads touches ρs Hs) (I : Inv S lo n0 ops ρs Hs c0 H0 D tE c a) {i : Nat} {o : Oper} (hr : Ready ops D i o) : EvOn S c (ρs i) a o.op.operands := by
  intro x hx
  cases x with
  | tmp t =>
    have : t ∈ o.looksAt ops := by
      unfold Oper.looksAt
      refine List.mem_append.2 (.inl ?_)
      rw [List.mem_filterMap]
      exact ⟨.tmp t, by simpa using hx, rfl⟩
    exact I.look T hr this
  | const v => exact constA_V c v
  | global g =>
    simp only [evalA, Act.eval]
    split
    · rename_i cs h
      exact I.glob.v g cs h
    · simp [V]
  | func f =>
    simp only [evalA, Act.eval, V]
    exact ⟨[], [], rfl, by simp [Vs], by simp [Vs]⟩
theorem Inv.guard (T : Tra S call lo n0 ops B reads touches ρs Hs) (I : Inv S lo n0 ops ρs Hs c0 H0 D tE c a) {i : Nat} {o : Oper} (hr : Ready ops D i o) {g : Bool} (h : guardA ops.toList (ρs i) o = some g) : Region.wanted o (yielded ops a.tmps) = g := by
  have hi : i < ops.size := (Array.getElem?_eq_some_iff.1 hr.op).1
  have hlen : (ρs i).length = a.tmps.size := by rw [T.len i (by omega), I.size]
  unfold guardA at h
  unfold Region.wanted
  split at h
  · rename_i hg
    simp only [Option.some.injEq] at h
    rw [hg]
    exact h
  · rename_i j want hg
    rw [hg]
    simp only
    have hops : ops.toList[j]? = ops[j]? := by simp
    rw [hops] at h
    split at h
    · rename_i hd
      simp only [Option.some.injEq] at h
      subst h
      simp [yielded, hd]
    · rename_i d hd
      have hmem : d ∈ o.looksAt ops := by
        unfold Oper.looksAt
        refine List.mem_append.2 (.inr ?_)
        rw [hg]
        simp [hd]
      have hV := I.look T hr hmem
      split at h
      · rename_i hn
        simp only [Option.some.injEq] at h
        subst h
        have : a.tmps[d]? = none := by
          rw [List.getElem?_eq_none_iff] at hn
          rw [Array.getElem?_eq_none_iff]
          omega
        simp [yielded, hd, this]
      · rename_i bv hn
        simp only [Option.some.injEq] at h
        subst h
        have hlt : d < a.tmps.size := Nat.lt_of_lt_of_eq (List.getElem?_eq_some_iff.1 hn).1 hlen
        rw [List.getD_eq_getElem?_getD, hn] at hV
        simp only [Option.getD_some, V] at hV
        have : a.tmps[d]? = some (.bool bv) := by
          rw [Array.getD_eq_getD_getElem?] at hV
          rw [Array.getElem?_eq_getElem hlt] at hV ⊢
          simpa using hV
        simp [yielded, hd, this]
      · cases h
      · rename_i av hnb hnj hn
        simp only [Option.some.injEq] at h
        subst h
        have hlt : d < a.tmps.size := Nat.lt_of_lt_of_eq (List.getElem?_eq_some_iff.1 hn).1 hlen
        rw [List.getD_eq_getElem?_getD, hn] at hV
        simp only [Option.getD_some] at hV
        have hv := not_bool hV (fun b e => hnb b e) (fun e => hnj e)
        have hy : yielded ops a.tmps j = none := by
          simp only [yielded, hd, Option.bind_some]
          rw [Array.getElem?_eq_getElem hlt]
          rw [Array.getD_eq_getD_getElem?, Array.getElem?_eq_getElem hlt] at hv
          simp only [Option.getD_some] at hv
          cases hval : a.tmps[d] <;> first | rfl | exact absurd hval (hv _)
        rw [hy]
        rfl
theorem Inv.slots' (T : Tra S call lo n0 ops B reads touches ρs Hs) (I : Inv S lo n0 ops ρs Hs c0 H0 D tE c a) {i : Nat} {o : Oper} (hr : Ready ops D i o) {c' : Cx} (hE : Ext c c') {v : AVal} {u : Value} (hv : V c' v u)
    (hρ : ρs (i + 1) = putA (ρs i) o.dst v) : ∀ s, ∃ t, t ≤ ops.size ∧ (t = 0 ∨ ∃ p, t = p + 1 ∧ (D p || p == i) = true ∧ dstAt ops p = some s) ∧ (∀ j, (D j || j == i) = true → dstAt ops j = some s → j < t) ∧
      V c' ((ρs t).getD s undefA) ((a.put o.dst u).tmps.getD s undef) := by
  have hi : i < ops.size := (Array.getElem?_eq_some_iff.1 hr.op).1
  have hlen : (ρs i).length = a.tmps.size := by rw [T.len i (by omega), I.size]
  intro s
  by_cases hs : o.dst = some s
  · refine ⟨i + 1, by omega, .inr ⟨i, rfl, by simp, by simp [dstAt, hr.op, hs]⟩, ?_, ?_⟩
    · intro j hj hd
      simp only [Bool.or_eq_true, beq_iff_eq] at hj
      rcases hj with hj | hj
      · rcases Nat.lt_trichotomy j i with h1 | h1 | h1
        · omega
        · omega
        · obtain ⟨y, hoj⟩ := op_at (I.dlt j hj)
          rcases T.pair.pair i j _ _ h1 hr.op hoj with h5 | ⟨h5, _⟩
          · rw [I.not_behind T hr hj] at h5; cases h5
          · exact absurd (by simpa [dstAt, hoj] using hd) ((Oper.apart_spec h5).2.1 s hs)
      · omega
    · rw [hρ, hs]
      simp only [putA, Act.put]
      rw [List.getD_eq_getElem?_getD, Array.getD_eq_getD_getElem?, List.getElem?_set, if_pos rfl]
      by_cases hlt : s < (ρs i).length
      · rw [if_pos hlt, Array.getElem?_setIfInBounds, if_pos rfl, if_pos (Nat.lt_of_lt_of_eq hlt hlen)]
        simpa using hv
      · rw [if_neg hlt, Array.getElem?_setIfInBounds, if_pos rfl, if_neg (fun h => hlt (Nat.lt_of_lt_of_eq h hlen.symm))]
        exact undef_V c'
  · obtain ⟨t, h1, h2, h3, h4⟩ := I.slots s
    refine ⟨t, h1, ?_, ?_, ?_⟩
    · rcases h2 with h | ⟨p, h, hp, hd⟩
      · exact .inl h
      · exact .inr ⟨p, h, by simp [hp], hd⟩
    · intro j hj hd
      simp only [Bool.or_eq_true, beq_iff_eq] at hj
      rcases hj with hj | hj
      · exact h3 j hj hd
      · subst hj
        simp only [dstAt, hr.op, Option.bind_some] at hd
        exact absurd hd hs
    · have : (a.put o.dst u).tmps.getD s undef = a.tmps.getD s undef := by
        cases hd : o.dst with
        | none => rfl
        | some d =>
          have : d ≠ s := fun e => hs (by rw [hd, e])
          simp only [Act.put, Array.getD_eq_getD_getElem?, Array.getElem?_setIfInBounds, if_neg this]
      rw [this]
      exact V_ext hE _ _ h4
theorem Inv.down' (I : Inv S lo n0 ops ρs Hs c0 H0 D tE c a) {i : Nat} {o : Oper} (hr : Ready ops D i o) : ∀ x o', ops[x]? = some o' → (D x || x == i) = true → ∀ e ∈ o'.after.toList, Region.binds .any e = true → (D e.on || e.on == i) = true := by
  intro x o' ho' hx e he hb
  simp only [Bool.or_eq_true, beq_iff_eq] at hx ⊢
  rcases hx with hx | hx
  · exact .inl (I.down x o' ho' hx e he hb)
  · subst hx
    rw [hr.op] at ho'
    cases ho'
    exact .inl (hr.pre e he hb)
theorem Inv.dlt' (I : Inv S lo n0 ops ρs Hs c0 H0 D tE c a) {i : Nat} {o : Oper} (hr : Ready ops D i o) : ∀ x, (D x || x == i) = true → x < ops.size := by
  intro x hx
  simp only [Bool.or_eq_true, beq_iff_eq] at hx
  rcases hx with hx | hx
  · exact I.dlt x hx
  · subst hx
    exact (Array.getElem?_eq_some_iff.1 hr.op).1
theorem put_size (a : Act) (d : Option Tmp) (v : Value) : (a.put d v).tmps.size = a.tmps.size := by cases d <;> simp [Act.put]
theorem HD_calm {i : Nat} (hn : newW S ops ρs i = false) : HD S ops ρs Hs n0 (fun x => D x || x == i) tE = HD S ops ρs Hs n0 D tE := by
  unfold HD
  apply List.map_congr_left
  intro b _
  by_cases hb : isN S ops ρs n0 b = true
  · obtain ⟨_, h2⟩ := isN_spec hb
    have : (b - n0 == i) = false := by
      cases h : (b - n0 == i) with
      | false => rfl
      | true =>
        simp only [beq_iff_eq] at h
        rw [h, hn] at h2
        cases h2
    simp [this]
  · simp only [Bool.not_eq_true] at hb
    simp [hb]
theorem Inv.calm (T : Tra S call lo n0 ops B reads touches ρs Hs) (I : Inv S lo n0 ops ρs Hs c0 H0 D tE c a) {i : Nat} {o : Oper} (hr : Ready ops D i o) (he : effAt ops i = false) (hn : newW S ops ρs i = false) {v : AVal} {u : Value} (hv : V c v u)
    (hρ : ρs (i + 1) = putA (ρs i) o.dst v) : Inv S lo n0 ops ρs Hs c0 H0 (fun x => D x || x == i) tE c (a.put o.dst u) where
  tEn := I.tEn
  eff := by
    intro j hj hje
    simp only [Bool.or_eq_true, beq_iff_eq] at hj
    rcases hj with hj | hj
    · exact I.eff j hj hje
    · subst hj; rw [he] at hje; cases hje
  last := by
    rcases I.last with h | ⟨p, h1, h2, h3⟩
    · exact .inl h
    · exact .inr ⟨p, h1, by simp [h2], h3⟩
  slots := I.slots' T hr (Ext.refl c) hv hρ
  size := by rw [put_size]; exact I.size
  rel := by rw [HD_calm hn]; exact I.rel
  tr := by rw [HD_calm hn]; exact I.tr
  low := by rw [HD_calm hn]; exact I.low
  undone := by
    intro m hm hD
    simp only [Bool.or_eq_false_iff] at hD
    exact I.undone m hm hD.1
  defers := by rw [put_defers]; exact I.defers
  down := I.down' hr
  dlt := I.dlt' hr
  glob := I.glob
  base := I.base
theorem Inv.seen (T : Tra S call lo n0 ops B reads touches ρs Hs) (I : Inv S lo n0 ops ρs Hs c0 H0 D tE c a) {i b : Nat} {o : Oper} {blk : ABlk} (hr : Ready ops D i o) (he : effAt ops i = false) (hn : newW S ops ρs i = false)
    (hread : (i, b) ∈ reads) (hlive : (Hs i)[b]? = some (some blk)) (hι : c.ι b ≠ none) : (HD S ops ρs Hs n0 D tE)[b]? = some (some blk) := by
  have hi : i < ops.size := (Array.getElem?_eq_some_iff.1 hr.op).1
  have hbE : b < (Hs tE).length := by
    rcases Nat.lt_or_ge b (Hs tE).length with h | h
    · exact h
    · exact absurd (I.rel.fresh b (by rw [HD_length]; exact h)) hι
  have hbi : b < (Hs i).length := (List.getElem?_eq_some_iff.1 hlive).1
  have hND : isN S ops ρs n0 b = true → D (b - n0) = true ∧ b - n0 < i := by
    intro hN
    obtain ⟨h1, h2⟩ := isN_spec hN
    have hbe : n0 + (b - n0) = b := by omega
    have hDm : D (b - n0) = true := by
      cases h : D (b - n0) with
      | true => rfl
      | false => exact absurd (by have := I.undone _ h2 h; rwa [hbe] at this) hι
    refine ⟨hDm, ?_⟩
    rcases Nat.lt_trichotomy (b - n0) i with h | h | h
    · exact h
    · rw [h, hn] at h2; cases h2
    · exfalso
      obtain ⟨hnew, hmlt⟩ := newW_new h2
      have hch := keep_chain' (Hs := Hs) (b := b) (p := i) (q := b - n0) (by omega) hbi (by
        intro j hj1 hj2
        by_cases hje : effAt ops j = true
        · have := T.keep_hidden (j := j) (m := b - n0) (by omega) hje hmlt hnew (by
            cases hb : (B.getD j 0).testBit (b - n0) with
            | false => rfl
            | true => have := T.lt _ _ hb; omega)
          rwa [hbe] at this
        · simp only [Bool.not_eq_true] at hje
          exact T.keep_calm (by omega) hje fun _ => by omega)
      have hom : ops[b - n0]? = some ops[b - n0] := by simp [hmlt]
      have hdead : (Hs (b - n0))[b]? = some none := by
        cases T.step _ _ hom with
        | skip hg _ _ =>
          simp [newW, hom, hg] at h2
        | new _ _ _ _ _ hd _ _ => rwa [hbe] at hd
        | eff _ h _ _ _ _ _ _ _ _ => simp [newAt, hom] at hnew; rw [hnew] at h; cases h
        | quiet _ h _ _ _ _ _ _ => simp [newAt, hom] at hnew; rw [hnew] at h; cases h
      rw [hch.1, hlive] at hdead
      cases hdead
  refine HD_live.2 ⟨hbE, fun hN => (hND hN).1, ?_⟩
  have far : ∀ j, j < ops.size → effAt ops j = true → (B.getD i 0).testBit j = false → (B.getD j 0).testBit i = false → Keep Hs j b := fun j h1 h2 h3 h4 => T.keep_far h1 h2 hread h3 h4
  have hτ : tE ≤ tm S ops ρs n0 tE b := by unfold tm; split <;> omega
  rcases Nat.lt_or_ge i (tm S ops ρs n0 tE b) with hlt | hge
  · have hτe : tm S ops ρs n0 tE b = tE := by
      unfold tm at hlt ⊢
      split
      · rename_i hN
        rw [if_pos hN] at hlt
        have := (hND hN).2
        omega
      · rfl
    rw [hτe] at hlt ⊢
    have hch := keep_chain' (Hs := Hs) (b := b) (p := i) (q := tE) (by omega) hbi (by
      intro j hj1 hj2
      have hjn : j < ops.size := by have := I.tEn; omega
      by_cases hje : effAt ops j = true
      · have hji : j ≠ i := fun e => by rw [e, he] at hje; cases hje
        have hDj := I.effs T hj2 hje
        refine far j hjn hje ?_ (I.not_behind T hr hDj)
        cases hb : (B.getD i 0).testBit j with
        | false => rfl
        | true => have := T.lt _ _ hb; omega
      · simp only [Bool.not_eq_true] at hje
        refine T.keep_calm hjn hje fun hnw hbj => ?_
        have hN : isN S ops ρs n0 b = true := by rw [hbj]; exact isN_of hnw
        have := (hND hN).2
        omega)
    rw [hch.1]
    exact hlive
  · have hbτ : b < (Hs (tm S ops ρs n0 tE b)).length := Nat.lt_of_lt_of_le hbE (T.mono _ hτ (by omega))
    have hch := keep_chain' (Hs := Hs) (b := b) (p := tm S ops ρs n0 tE b) (q := i) hge hbτ (by
      intro j hj1 hj2
      have hjn : j < ops.size := by omega
      by_cases hje : effAt ops j = true
      · have hDj : D j = false := by
          cases h : D j with
          | false => rfl
          | true => have := I.eff j h hje; omega
        refine far j hjn hje ?_ ?_
        · cases hb : (B.getD i 0).testBit j with
          | false => rfl
          | true => rw [hr.bit T.bits T.lt I.down hb] at hDj; cases hDj
        · cases hb : (B.getD j 0).testBit i with
          | false => rfl
          | true => have := T.lt _ _ hb; omega
      · simp only [Bool.not_eq_true] at hje
        refine T.keep_calm hjn hje fun hnw hbj => ?_
        have hN : isN S ops ρs n0 b = true := by rw [hbj]; exact isN_of hnw
        unfold tm at hj1
        rw [if_pos hN] at hj1
        omega)
    rw [← hch.1]
    exact hlive
end Go.Am

/- That a region whose order is open keeps to the idealised one, in whatever order: new blocks, effects, the whole. Generic: over any program. -/
namespace Go.Am
set_option linter.unusedVariables false
open Go.RowKit
variable {S : AStat} {call : CallF} {lo n0 : Nat} {ops : Array Oper} {B : List Nat} {reads : List (Nat × Nat)} {touches : List (Nat × Option (List Nat))} {ρs : Nat → List AVal} {Hs : Nat → Heap}
variable {c0 c : Cx} {H0 : Heap} {D : Nat → Bool} {tE : Nat} {a : Act}
theorem Inv.newStep (T : Tra S call lo n0 ops B reads touches ρs Hs) (I : Inv S lo n0 ops ρs Hs c0 H0 D tE c a) {i : Nat} {o : Oper} (hr : Ready ops D i o) (hn : newW S ops ρs i = true) {blk : ABlk} {mk : Nat → AVal}
    (hd : (Hs i)[n0 + i]? = some none) (hH : Hs (i + 1) = (Hs i).set (n0 + i) (some blk)) (hρ : ρs (i + 1) = putA (ρs i) o.dst (mk (n0 + i))) {obj : Obj} {u : Value}
    (hm : ∀ b, Ext c (c.put b c.w.heap.size 0 (c.w.alloc obj)) → BlkRel (c.put b c.w.heap.size 0 (c.w.alloc obj)) c.w.heap.size 0 blk ∧ V (c.put b c.w.heap.size 0 (c.w.alloc obj)) (mk b) u) :
    Inv S lo n0 ops ρs Hs c0 H0 (fun x => D x || x == i) tE (c.put (n0 + i) c.w.heap.size 0 (c.w.alloc obj)) (a.put o.dst u) := by
  have hi : i < ops.size := (Array.getElem?_eq_some_iff.1 hr.op).1
  obtain ⟨hnew, _⟩ := newW_new hn
  have he := new_not_eff hnew
  have hι := I.undone i hn hr.not
  have hw := T.wide i hi hnew
  have hlenE : n0 + i < (Hs tE).length := Nat.lt_of_lt_of_le hw (T.mono _ (Nat.zero_le _) I.tEn)
  have hlive : (HD S ops ρs Hs n0 (fun x => D x || x == i) tE)[n0 + i]? = some (some blk) := by
    refine HD_live.2 ⟨hlenE, fun _ => by simp, ?_⟩
    have hτ : tm S ops ρs n0 tE (n0 + i) = max tE (i + 1) := by
      unfold tm
      rw [if_pos (isN_of hn)]
      congr 2
      omega
    rw [hτ]
    have hb1 : n0 + i < (Hs (i + 1)).length := by
      rw [hH, List.length_set]
      exact (List.getElem?_eq_some_iff.1 hd).1
    have h1 : (Hs (i + 1))[n0 + i]? = some (some blk) := by
      rw [hH, List.getElem?_set, if_pos rfl, if_pos (List.getElem?_eq_some_iff.1 hd).1]
    have htE := I.tEn
    have hch := keep_chain' (Hs := Hs) (b := n0 + i) (p := i + 1) (q := max tE (i + 1)) (by omega) hb1 (by
      intro j hj1 hj2
      have hjn : j < ops.size := by omega
      by_cases hje : effAt ops j = true
      · exact T.keep_hidden hjn hje hi hnew (I.not_behind T hr (I.effs T (by omega) hje))
      · simp only [Bool.not_eq_true] at hje
        exact T.keep_calm hjn hje fun _ => by omega)
    rw [hch.1]
    exact h1
  have hadd := I.rel.add (H' := HD S ops ρs Hs n0 (fun x => D x || x == i) tE) (n0 + i) obj blk hι (by rw [HD_length]; exact hlenE) (by rw [HD_length, HD_length]; exact Nat.le_refl _) (by
    intro x y hxy
    by_cases hx : x = n0 + i
    · subst hx
      rw [hlive] at hxy
      simp only [Option.some.injEq] at hxy
      exact .inl ⟨rfl, hxy.symm⟩
    · refine .inr ⟨hx, ?_⟩
      obtain ⟨g1, g2, g3⟩ := HD_live.1 hxy
      refine HD_live.2 ⟨g1, fun hN => ?_, g3⟩
      have := g2 hN
      obtain ⟨h5, _⟩ := isN_spec hN
      simp only [Bool.or_eq_true, beq_iff_eq] at this
      rcases this with h | h
      · exact h
      · omega) (fun hE => (hm _ hE).1)
  refine ⟨I.tEn, ?_, ?_, I.slots' T hr hadd.2.ext (hm _ hadd.2.ext).2 hρ, by rw [put_size]; exact I.size, hadd.1, I.tr.trans hadd.2, ?_, ?_, by rw [put_defers]; exact I.defers, I.down' hr, I.dlt' hr, I.glob.ext hadd.2.ext, I.base⟩
  · intro j hj hje
    simp only [Bool.or_eq_true, beq_iff_eq] at hj
    rcases hj with hj | hj
    · exact I.eff j hj hje
    · subst hj; rw [he] at hje; cases hje
  · rcases I.last with h | ⟨p, h1, h2, h3⟩
    · exact .inl h
    · exact .inr ⟨p, h1, by simp [h2], h3⟩
  · -- the new number may be known to nobody ahead of the region
    refine ⟨?_, ?_, Nat.le_trans I.low.len (by rw [HD_length, HD_length]; exact Nat.le_refl _)⟩
    · intro b blk' hb hH0
      obtain ⟨h1, h2⟩ := I.low.low b blk' hb hH0
      obtain ⟨B', base', h3, _, h4, _⟩ := I.rel.blk b blk' h1
      refine ⟨?_, fun B base hi' => ?_⟩
      · obtain ⟨g1, g2, g3⟩ := HD_live.1 h1
        exact HD_live.2 ⟨g1, fun hN => by simp [g2 hN], g3⟩
      · have h5 := h2 B base hi'
        have h6 := I.tr.ext.ι b _ hi'
        rw [h3] at h6
        simp only [Option.some.injEq, Prod.mk.injEq] at h6
        obtain ⟨rfl, rfl⟩ := h6
        rw [← h5]
        exact Below.heap_alloc _ _ _ h4
    · intro b hb h
      have := I.base
      simp only [Cx.put]
      rw [if_neg (by omega)]
      exact I.low.dom b hb h
  · intro m hm' hD
    simp only [Bool.or_eq_false_iff, beq_eq_false_iff_ne] at hD
    simp only [Cx.put]
    rw [if_neg (by omega)]
    exact I.undone m hm' hD.1
theorem Inv.still (T : Tra S call lo n0 ops B reads touches ρs Hs) (_I : Inv S lo n0 ops ρs Hs c0 H0 D tE c a) {q : Nat} (hq : q ≤ ops.size) (hle : tE ≤ q) (hno : ∀ k, k < q → effAt ops k = true → k < tE) :
    (Hs q).length = (Hs tE).length ∧ ∀ b t, tE ≤ t → t ≤ q → b < (Hs tE).length → (isN S ops ρs n0 b = true → b - n0 < t) → (Hs q)[b]? = (Hs t)[b]? := by
  have hcalm : ∀ j, tE ≤ j → j < q → effAt ops j = false := by
    intro j h1 h2
    cases h : effAt ops j with
    | false => rfl
    | true => have := hno j h2 h; omega
  refine ⟨?_, ?_⟩
  · have := T.calm_len (q - tE) tE (by omega) fun j h1 h2 => hcalm j h1 (by omega)
    rwa [show tE + (q - tE) = q by omega] at this
  · intro b t ht1 ht2 hb hN
    have hbt : b < (Hs t).length := Nat.lt_of_lt_of_le hb (T.mono _ ht1 (by omega))
    refine (keep_chain' (Hs := Hs) (b := b) ht2 hbt fun j h1 h2 => T.keep_calm (by omega) (hcalm j (by omega) h2) fun hnw hbj => ?_).1
    have hNb : isN S ops ρs n0 b = true := by rw [hbj]; exact isN_of hnw
    have := hN hNb
    omega
theorem Inv.skipEff (T : Tra S call lo n0 ops B reads touches ρs Hs) (I : Inv S lo n0 ops ρs Hs c0 H0 D tE c a) {i : Nat} {o : Oper} (hr : Ready ops D i o) (he : effAt ops i = true) (hH : Hs (i + 1) = Hs i) {v : AVal} {u : Value} (hv : V c v u)
    (hρ : ρs (i + 1) = putA (ρs i) o.dst v) (hlo : lo ≤ n0) : Inv S lo n0 ops ρs Hs c0 H0 (fun x => D x || x == i) (i + 1) c (a.put o.dst u) := by
  have hi : i < ops.size := (Array.getElem?_eq_some_iff.1 hr.op).1
  obtain ⟨hle, hno⟩ := I.next T hr he
  obtain ⟨hlen, hst⟩ := I.still T (by omega) hle hno
  have hni : newW S ops ρs i = false := by
    cases h : newW S ops ρs i with
    | false => rfl
    | true => rw [new_not_eff (newW_new h).1] at he; cases he
  have hD : ∀ b, isN S ops ρs n0 b = true → ((D (b - n0) || (b - n0) == i) = true ↔ D (b - n0) = true) := by
    intro b hN
    obtain ⟨_, h2⟩ := isN_spec hN
    simp only [Bool.or_eq_true, beq_iff_eq]
    exact ⟨fun h => h.resolve_right fun e => (by rw [e, hni] at h2; cases h2), .inl⟩
  have same : ∀ b, b < (Hs tE).length → (isN S ops ρs n0 b = true → D (b - n0) = true) → (Hs (tm S ops ρs n0 (i + 1) b))[b]? = (Hs (tm S ops ρs n0 tE b))[b]? := by
    intro b hb _
    unfold tm
    split
    · rename_i hN
      rcases Nat.lt_trichotomy (b - n0) i with h | h | h
      · rw [show max (i + 1) (b - n0 + 1) = i + 1 by omega, hH]
        exact hst b _ (by omega) (by omega) hb (fun _ => by omega)
      · obtain ⟨_, h2⟩ := isN_spec hN
        rw [h, hni] at h2
        cases h2
      · rw [show max (i + 1) (b - n0 + 1) = b - n0 + 1 by omega, show max tE (b - n0 + 1) = b - n0 + 1 by omega]
    · rename_i hN
      rw [hH]
      exact hst b tE (Nat.le_refl _) hle hb (fun h => absurd h hN)
  have liv : ∀ (b : Nat) (blk : ABlk), (HD S ops ρs Hs n0 (fun x => D x || x == i) (i + 1))[b]? = some (some blk) ↔ (HD S ops ρs Hs n0 D tE)[b]? = some (some blk) := by
    intro b blk
    rw [HD_live, HD_live]
    have hl2 : (Hs (i + 1)).length = (Hs tE).length := by rw [hH, hlen]
    rw [hl2]
    constructor
    · rintro ⟨h1, h2, h3⟩
      have h2' : isN S ops ρs n0 b = true → D (b - n0) = true := fun hN => (hD b hN).1 (h2 hN)
      exact ⟨h1, h2', by rw [← same b h1 h2']; exact h3⟩
    · rintro ⟨h1, h2, h3⟩
      exact ⟨h1, fun hN => (hD b hN).2 (h2 hN), by rw [same b h1 h2]; exact h3⟩
  have hl3 : (HD S ops ρs Hs n0 D tE).length = (HD S ops ρs Hs n0 (fun x => D x || x == i) (i + 1)).length := by rw [HD_length, HD_length, hH, hlen]
  refine ⟨by omega, ?_, .inr ⟨i, rfl, by simp, he⟩, I.slots' T hr (Ext.refl c) hv hρ, by rw [put_size]; exact I.size, I.rel.sub (fun b blk h => (liv b blk).1 h) (by omega),
    I.tr.trans (Tr.sub fun b blk h => (liv b blk).1 h), ?_, ?_, by rw [put_defers]; exact I.defers, I.down' hr, I.dlt' hr, I.glob, I.base⟩
  · intro j hj hje
    simp only [Bool.or_eq_true, beq_iff_eq] at hj
    rcases hj with hj | hj
    · have := I.eff j hj hje
      omega
    · omega
  · exact ⟨fun b blk hb h => ⟨(liv b blk).2 (I.low.low b blk hb h).1, (I.low.low b blk hb h).2⟩, I.low.dom, by have := I.low.len; omega⟩
  · intro m hm hDm
    simp only [Bool.or_eq_false_iff] at hDm
    exact I.undone m hm hDm.1
theorem Inv.effStep (T : Tra S call lo n0 ops B reads touches ρs Hs) (I : Inv S lo n0 ops ρs Hs c0 H0 D tE c a) {i : Nat} {o : Oper} (hr : Ready ops D i o) (he : effAt ops i = true) (hlo : lo ≤ n0) :
    Rel c (hide (Hs i) (hidden ops B n0 i)) ∧ ∀ (v : AVal) (u : Value) (H1 : Heap) (c' : Cx), Hs (i + 1) = unhide (Hs i) H1 (hidden ops B n0 i) → ρs (i + 1) = putA (ρs i) o.dst v →
      Rel c' H1 → Tr c (hide (Hs i) (hidden ops B n0 i)) c' H1 → Low lo c (hide (Hs i) (hidden ops B n0 i)) c' H1 → V c' v u →
      Inv S lo n0 ops ρs Hs c0 H0 (fun x => D x || x == i) (i + 1) c' (a.put o.dst u) := by
  have hi : i < ops.size := (Array.getElem?_eq_some_iff.1 hr.op).1
  obtain ⟨hle, hno⟩ := I.next T hr he
  obtain ⟨hlen, hst⟩ := I.still T (by omega) hle hno
  have hni : newW S ops ρs i = false := by
    cases h : newW S ops ρs i with
    | false => rfl
    | true => rw [new_not_eff (newW_new h).1] at he; cases he
  -- what the effect sees is there
  have sub : ∀ (b : Nat) (blk : ABlk), (hide (Hs i) (hidden ops B n0 i))[b]? = some (some blk) → b ∉ hidden ops B n0 i ∧ (Hs i)[b]? = some (some blk) ∧ (HD S ops ρs Hs n0 D tE)[b]? = some (some blk) := by
    intro b blk h
    rw [hide_get] at h
    split at h
    · cases h
    · rename_i hnh
      have hbl : b < (Hs i).length := (List.getElem?_eq_some_iff.1 h).1
      have hnh' : b ∉ hidden ops B n0 i := fun e => hnh ⟨e, hbl⟩
      refine ⟨hnh', h, ?_⟩
      have hbE : b < (Hs tE).length := by omega
      have hND : isN S ops ρs n0 b = true → D (b - n0) = true ∧ b - n0 < i := by
        intro hN
        obtain ⟨h1, h2⟩ := isN_spec hN
        obtain ⟨h3, h4⟩ := newW_new h2
        have hbit : (B.getD i 0).testBit (b - n0) = true := by
          cases hb : (B.getD i 0).testBit (b - n0) with
          | true => rfl
          | false => exact absurd (mem_hidden.2 ⟨b - n0, h4, h3, hb, by omega⟩) hnh'
        exact ⟨hr.bit T.bits T.lt I.down hbit, T.lt _ _ hbit⟩
      refine HD_live.2 ⟨hbE, fun hN => (hND hN).1, ?_⟩
      rw [← hst b (tm S ops ρs n0 tE b) (by unfold tm; split <;> omega) (by
        unfold tm
        split
        · rename_i hN; have := (hND hN).2; omega
        · exact hle) hbE (by intro hN; unfold tm; rw [if_pos hN]; omega)]
      exact h
  have hlen2 : (hide (Hs i) (hidden ops B n0 i)).length = (HD S ops ρs Hs n0 D tE).length := by rw [hide_length, HD_length, hlen]
  refine ⟨I.rel.sub (fun b blk h => (sub b blk h).2.2) (by omega), ?_⟩
  intro v u H1 c' hH hρ hR' hT' hL' hv
  -- each live block behind the effect is one of the effect's, or one out of its sight
  have liv : ∀ (b : Nat) (blk : ABlk), (HD S ops ρs Hs n0 (fun x => D x || x == i) (i + 1))[b]? = some (some blk) →
      (b ∉ hidden ops B n0 i ∧ H1[b]? = some (some blk)) ∨ (b ∈ hidden ops B n0 i ∧ (HD S ops ρs Hs n0 D tE)[b]? = some (some blk)) := by
    intro b blk h
    obtain ⟨h1, h2, h3⟩ := HD_live.1 h
    have hl1 : (Hs (i + 1)).length = H1.length := by rw [hH, unhide_length]
    have hND : isN S ops ρs n0 b = true → D (b - n0) = true ∧ b - n0 ≠ i := by
      intro hN
      obtain ⟨_, h5⟩ := isN_spec hN
      have hne : b - n0 ≠ i := fun e => by rw [e, hni] at h5; cases h5
      have := h2 hN
      simp only [Bool.or_eq_true, beq_iff_eq] at this
      exact ⟨this.resolve_right hne, hne⟩
    by_cases hh : b ∈ hidden ops B n0 i
    · refine .inr ⟨hh, ?_⟩
      obtain ⟨j, hj1, hj2, hj3, rfl⟩ := mem_hidden.1 hh
      have hbE : n0 + j < (Hs tE).length := Nat.lt_of_lt_of_le (T.wide j hj1 hj2) (T.mono _ (Nat.zero_le _) I.tEn)
      refine HD_live.2 ⟨hbE, fun hN => (hND hN).1, ?_⟩
      have back : (Hs (i + 1))[n0 + j]? = (Hs i)[n0 + j]? := by
        rw [hH, unhide_get, if_pos ⟨hh, by omega⟩, List.getD_eq_getElem?_getD, List.getElem?_eq_getElem (by omega)]
        rfl
      rw [← h3]
      unfold tm
      split
      · rename_i hN
        have hji : n0 + j - n0 = j := by omega
        rw [hji] at *
        obtain ⟨_, hne⟩ := hND hN
        rw [hji] at hne
        rcases Nat.lt_or_ge j i with hlt | hge
        · rw [show max (i + 1) (j + 1) = i + 1 by omega, back]
          exact (hst _ _ (by omega) (by omega) hbE (fun _ => by omega)).symm
        · rw [show max (i + 1) (j + 1) = j + 1 by omega, show max tE (j + 1) = j + 1 by omega]
      · rename_i hN
        rw [back]
        exact (hst _ tE (Nat.le_refl _) hle hbE (fun h => absurd h hN)).symm
    · refine .inl ⟨hh, ?_⟩
      have hτ : tm S ops ρs n0 (i + 1) b = i + 1 := by
        unfold tm
        split
        · rename_i hN
          obtain ⟨hDm, hne⟩ := hND hN
          obtain ⟨g1, g2⟩ := isN_spec hN
          obtain ⟨g3, g4⟩ := newW_new g2
          have hbit : (B.getD i 0).testBit (b - n0) = true := by
            cases hb : (B.getD i 0).testBit (b - n0) with
            | true => rfl
            | false => exact absurd (mem_hidden.2 ⟨b - n0, g4, g3, hb, by omega⟩) hh
          have := T.lt _ _ hbit
          omega
        · rfl
      rw [hτ, hH, unhide_get, if_neg (fun e => hh e.1)] at h3
      exact h3
  -- what is out of the effect's sight has not turned
  have far : ∀ (b : Nat) (blk : ABlk), b ∈ hidden ops B n0 i → (HD S ops ρs Hs n0 D tE)[b]? = some (some blk) → ∃ B' base, c.ι b = some (B', base) ∧ ¬ c.I B' ∧ B' < c.w.heap.size ∧ BlkRel c B' base blk ∧ ¬ Img c (hide (Hs i) (hidden ops B n0 i)) B' := by
    intro b blk hb h
    obtain ⟨B', base, h1, h2, h3, h4⟩ := I.rel.blk b blk h
    refine ⟨B', base, h1, h2, h3, h4, ?_⟩
    rintro ⟨b2, blk2, base2, h5, h6⟩
    obtain ⟨g1, _, g2⟩ := sub b2 blk2 h5
    have := I.rel.inj b b2 blk blk2 B' base base2 h g2 h1 h6
    subst this
    exact g1 hb
  have hl1 : (Hs (i + 1)).length = H1.length := by rw [hH, unhide_length]
  have hrel : Rel c' (HD S ops ρs Hs n0 (fun x => D x || x == i) (i + 1)) := by
    refine ⟨?_, ?_, ?_, hR'.lt⟩
    · intro b blk h
      rcases liv b blk h with ⟨_, h1⟩ | ⟨h1, h2⟩
      · exact hR'.blk b blk h1
      · obtain ⟨B', base, g1, g2, g3, g4, g5⟩ := far b blk h1 h2
        refine ⟨B', base, hT'.ext.ι _ _ g1, ?_, Nat.lt_of_lt_of_le g3 hT'.size, g4.ext hT'.ext (hT'.frame B' g3 g5)⟩
        intro hI
        rcases hT'.imm B' g3 hI with h | h
        · exact g2 h
        · exact g5 h
    · intro b b' blk blk' B' base base' h h' hi1 hi2
      rcases liv b blk h with ⟨g0, g1⟩ | ⟨g0, g1⟩ <;> rcases liv b' blk' h' with ⟨k0, k1⟩ | ⟨k0, k1⟩
      · exact hR'.inj b b' blk blk' B' base base' g1 k1 hi1 hi2
      · obtain ⟨B2, base2, f1, f2, f3, f4, f5⟩ := far b' blk' k0 k1
        rw [hT'.ext.ι _ _ f1] at hi2
        simp only [Option.some.injEq, Prod.mk.injEq] at hi2
        obtain ⟨rfl, rfl⟩ := hi2
        exact absurd (hT'.img B2 f3 ⟨b, blk, base, g1, hi1⟩) f5
      · obtain ⟨B2, base2, f1, f2, f3, f4, f5⟩ := far b blk g0 g1
        rw [hT'.ext.ι _ _ f1] at hi1
        simp only [Option.some.injEq, Prod.mk.injEq] at hi1
        obtain ⟨rfl, rfl⟩ := hi1
        exact absurd (hT'.img B2 f3 ⟨b', blk', base', k1, hi2⟩) f5
      · obtain ⟨B2, base2, f1, _⟩ := far b blk g0 g1
        obtain ⟨B3, base3, f2, _⟩ := far b' blk' k0 k1
        rw [hT'.ext.ι _ _ f1] at hi1
        rw [hT'.ext.ι _ _ f2] at hi2
        simp only [Option.some.injEq, Prod.mk.injEq] at hi1 hi2
        obtain ⟨rfl, rfl⟩ := hi1
        obtain ⟨rfl, rfl⟩ := hi2
        exact I.rel.inj b b' blk blk' _ _ _ g1 k1 f1 f2
    · intro b hb
      rw [HD_length, hl1] at hb
      exact hR'.fresh b hb
  have imgs : ∀ X, Img c (hide (Hs i) (hidden ops B n0 i)) X → Img c (HD S ops ρs Hs n0 D tE) X := by
    rintro X ⟨b, blk, base, h1, h2⟩
    exact ⟨b, blk, base, (sub b blk h1).2.2, h2⟩
  have htr : Tr c (HD S ops ρs Hs n0 D tE) c' (HD S ops ρs Hs n0 (fun x => D x || x == i) (i + 1)) := by
    refine ⟨hT'.ext, hT'.size, fun X hX hn => hT'.frame X hX fun h => hn (imgs X h), ?_, ?_, hT'.os, hT'.tape, hT'.output⟩
    · rintro X hX ⟨b, blk, base, h1, h2⟩
      rcases liv b blk h1 with ⟨_, g1⟩ | ⟨g0, g1⟩
      · exact imgs X (hT'.img X hX ⟨b, blk, base, g1, h2⟩)
      · obtain ⟨B2, base2, f1, _⟩ := far b blk g0 g1
        rw [hT'.ext.ι _ _ f1] at h2
        simp only [Option.some.injEq, Prod.mk.injEq] at h2
        obtain ⟨rfl, rfl⟩ := h2
        exact ⟨b, blk, base2, g1, f1⟩
    · intro X hX h
      rcases hT'.imm X hX h with h | h
      · exact .inl h
      · exact .inr (imgs X h)
  have hlow : Low lo c (HD S ops ρs Hs n0 D tE) c' (HD S ops ρs Hs n0 (fun x => D x || x == i) (i + 1)) := by
    refine ⟨?_, ?_, ?_⟩
    · intro b blk hb h
      obtain ⟨g1, g2, g3⟩ := HD_live.1 h
      have hbn : b < n0 := by omega
      have hN : isN S ops ρs n0 b = false := by simp [isN]; omega
      have hτ : ∀ t, tm S ops ρs n0 t b = t := fun t => by simp [tm, hN]
      rw [hτ] at g3
      have hnh : b ∉ hidden ops B n0 i := by
        intro hm
        obtain ⟨j, _, _, _, hj⟩ := mem_hidden.1 hm
        omega
      have hIi : (hide (Hs i) (hidden ops B n0 i))[b]? = some (some blk) := by
        rw [hide_get, if_neg (fun e => hnh e.1), hst b tE (Nat.le_refl _) hle g1 (fun h => by rw [hN] at h; cases h)]
        exact g3
      obtain ⟨h5, h6⟩ := hL'.low b blk hb hIi
      refine ⟨HD_live.2 ⟨?_, fun h => (by rw [hN] at h; cases h), ?_⟩, h6⟩
      · rw [hl1]
        exact (List.getElem?_eq_some_iff.1 h5).1
      · rw [hτ, hH, unhide_get, if_neg (fun e => hnh e.1)]
        exact h5
    · intro b hb h
      exact hL'.dom b (by omega) h
    · rw [HD_length, HD_length, hl1]
      have := hL'.len
      rw [hide_length] at this
      omega
  refine ⟨by omega, ?_, .inr ⟨i, rfl, by simp, he⟩, I.slots' T hr hT'.ext hv hρ, by rw [put_size]; exact I.size, hrel, I.tr.trans htr, I.low.trans I.tr.ext hlow, ?_, by rw [put_defers]; exact I.defers, I.down' hr, I.dlt' hr, I.glob.ext hT'.ext, I.base⟩
  · intro j hj hje
    simp only [Bool.or_eq_true, beq_iff_eq] at hj
    rcases hj with hj | hj
    · have := I.eff j hj hje
      omega
    · omega
  · intro m hm hDm
    simp only [Bool.or_eq_false_iff] at hDm
    obtain ⟨h3, h4⟩ := newW_new hm
    refine hL'.dom _ ?_ (I.undone m hm hDm.1)
    rw [hide_length]
    exact Nat.lt_of_lt_of_le (T.wide m h4 h3) (T.mono _ (Nat.zero_le _) (by omega))
end Go.Am

/- That a region whose order is open keeps to the idealised one, in whatever order: the whole. Generic: over any program. -/
namespace Go.Am
set_option linter.unusedVariables false
open Go.RowKit
variable {S : AStat} {call : CallF} {lo n0 : Nat} {ops : Array Oper} {B : List Nat} {reads : List (Nat × Nat)} {touches : List (Nat × Option (List Nat))} {ρs : Nat → List AVal} {Hs : Nat → Heap}
variable {c0 c : Cx} {H0 : Heap}
theorem quiet_eff {S : AStat} {ρ : List AVal} {H : Heap} {op : Op} (h : isEffB op = true) : quietA S ρ H op = none ∧ newA S ρ op = none := by
  cases op <;> simp only [isEffB] at h <;> first
    | (cases h; done)
    | exact ⟨rfl, rfl⟩
    | (rename_i cl
       obtain ⟨callee, args, ts⟩ := cl
       cases callee with
       | value f => exact ⟨rfl, rfl⟩
       | invoke r m => exact ⟨rfl, rfl⟩
       | builtin b => cases b <;> first | exact ⟨rfl, rfl⟩ | (simp at h; done))
theorem reads_dom {S : AStat} {c : Cx} {ρ : List AVal} {a : Act} {op : Op} {b : Nat} (hev : EvOn S c ρ a op.operands) (h : readsA S ρ op = some b) : c.ι b ≠ none := by
  have key : ∀ x ∈ op.operands, blkOf (evalA S ρ x) = some b → c.ι b ≠ none := by
    intro x hx hb
    have := hev x hx
    cases he : evalA S ρ x <;> rw [he] at hb this <;> simp only [blkOf, Option.some.injEq] at hb <;> first | (cases hb; done) | skip
    · subst hb
      simp only [V] at this
      obtain ⟨B, base, h1, _⟩ := this
      rw [h1]; simp
    · subst hb
      simp only [V] at this
      obtain ⟨B, h1, _⟩ := this
      rw [h1]; simp
  unfold readsA at h
  split at h
  · exact key _ (by simp [Op.operands]) h
  · exact key _ (by simp [Op.operands]) h
  · exact key _ (by simp [Op.operands]) h
  · rename_i s d x
    have := hev x (by simp [Op.operands])
    cases he : evalA S ρ x <;> rw [he] at h this <;> simp only [slBlk, Option.some.injEq] at h <;> first | (cases h; done) | skip
    subst h
    simp only [V] at this
    obtain ⟨B, base, k, o, h1, _⟩ := this
    rw [h1]; simp
  · split at h
    · rename_i x hx
      split at h
      · rename_i b' e
        refine key x (by simp [Op.operands, Call.operands]; exact Array.mem_of_getElem? hx) ?_
        rw [e]
        exact h
      · cases h
    · cases h
  · cases h
theorem draw_step (hS : StatOk S) (hC : CallOk S call) (T : Tra S call lo n0 ops B reads touches ρs Hs) (hlo : lo ≤ n0) {D : Nat → Bool} {tE : Nat} {a : Act} (I : Inv S lo n0 ops ρs Hs c0 H0 D tE c a) {i : Nat} {o : Oper} (hr : Ready ops D i o)
    {K : Act → World → Prop} {Q : Exit → Act → World → Prop} (hK : ∀ tE' c' a', Inv S lo n0 ops ρs Hs c0 H0 (fun x => D x || x == i) tE' c' a' → K a' c'.w) : wpOp S.P ops Q i K a c.w := by
  have hev := I.evOn T hr
  unfold wpOp
  rw [hr.op]
  simp only
  cases T.step i o hr.op with
  | skip hg hρ hH =>
    have hw := I.guard T hr hg
    rw [if_neg (by rw [hw]; simp)]
    cases he : effAt ops i with
    | true => exact hK _ _ _ (I.skipEff T hr he hH (undef_V c) hρ hlo)
    | false =>
      have hn : newW S ops ρs i = false := by simp [newW, hr.op, hg]
      exact hK _ _ _ (I.calm T hr he hn (undef_V c) hρ)
  | new hg hnb blk mk hnew hd hρ hH =>
    have hw := I.guard T hr hg
    rw [if_pos hw]
    have hn : newW S ops ρs i = true := by simp [newW, hr.op, hg, hnb]
    obtain ⟨obj, u, h1, h2⟩ := (newA_sim o hev hnew).run
    refine .inl ?_
    unfold Oper.wp
    rw [h1]
    exact hK _ _ _ (I.newStep T hr hn hd hH hρ h2)
  | eff hg hnb heb v H1 heff hl hρ hH ht =>
    have hw := I.guard T hr hg
    rw [if_pos hw]
    have he : effAt ops i = true := by simp [effAt, hr.op, heb]
    obtain ⟨hR, hfin⟩ := I.effStep T hr he hlo
    refine .inl (opA_sim hS hC (lo := lo) hR I.glob o hev (v := v) (H' := H1) ?_ ?_)
    · unfold opA
      obtain ⟨q1, q2⟩ := quiet_eff (S := S) (ρ := ρs i) (H := hide (Hs i) (hidden ops B n0 i)) heb
      rw [q1, q2]
      exact heff
    · intro c' u g1 g2 g3 g4
      exact hK _ _ _ (hfin v u H1 c' hH hρ g1 g2 g3 g4)
  | quiet hg hnb heb v hq hρ hH hrd =>
    have hw := I.guard T hr hg
    rw [if_pos hw]
    have he : effAt ops i = false := by simp [effAt, hr.op, heb]
    have hn : newW S ops ρs i = false := by simp [newW, hr.op, hnb]
    have hq' : quietA S (ρs i) (HD S ops ρs Hs n0 D tE) o.op = some v := by
      rw [quiet_local (H := Hs i)]
      · exact hq
      · intro b hb
        obtain ⟨blk, hlive⟩ := quiet_live hq hb
        rw [I.seen T hr he hn (hrd b hb) hlive (reads_dom hev hb), hlive]
    obtain ⟨u, h1, h2⟩ := quietA_sim I.rel o hev hq'
    refine .inl ?_
    unfold Oper.wp
    rw [h1]
    exact hK _ _ _ (I.calm T hr he hn h2 hρ)
theorem count_set : ∀ (l : List Bool) (i : Nat), l[i]? = some false → ((l.set i true).filter id).length = (l.filter id).length + 1
  | [], i, h => by simp at h
  | b :: l, 0, h => by
    simp at h
    subst h
    simp
  | b :: l, i + 1, h => by
    simp only [List.getElem?_cons_succ] at h
    simp only [List.set_cons_succ, List.filter_cons]
    split
    · simp only [List.length_cons, count_set l i h]
    · exact count_set l i h
theorem mem_ready {listed : Array Bool} {i : Nat} : i ∈ Region.ready .any ops listed ↔ ∃ o, ops[i]? = some o ∧ listed.getD i true = false ∧ ∀ e ∈ o.after.toList, Region.binds .any e = true → listed.getD e.on false = true := by
  unfold Region.ready
  rw [List.mem_filter, List.mem_range]
  constructor
  · rintro ⟨h1, h2⟩
    obtain ⟨o, ho⟩ := op_at h1
    rw [ho] at h2
    simp only [Bool.and_eq_true, Bool.not_eq_true', Option.map_some, Option.getD_some, ← Array.all_toList, List.all_eq_true, Bool.or_eq_true] at h2
    refine ⟨o, ho, h2.1, fun e he hb => ?_⟩
    rcases h2.2 e he with h | h
    · rw [hb] at h; cases h
    · exact h
  · rintro ⟨o, ho, h1, h2⟩
    refine ⟨(Array.getElem?_eq_some_iff.1 ho).1, ?_⟩
    rw [ho]
    simp only [Bool.and_eq_true, Bool.not_eq_true', Option.map_some, Option.getD_some, ← Array.all_toList, List.all_eq_true, Bool.or_eq_true]
    refine ⟨h1, fun e he => ?_⟩
    cases hb : Region.binds .any e with
    | false => exact .inl rfl
    | true => exact .inr (h2 e he hb)
theorem all_done (T : Tra S call lo n0 ops B reads touches ρs Hs) {listed : Array Bool} (hs : listed.size = ops.size) (h : Region.ready .any ops listed = []) : ∀ i, i < ops.size → listed.getD i false = true := by
  intro i
  induction i using Nat.strongRecOn with
  | _ i ih =>
    intro hi
    cases hl : listed.getD i false with
    | true => rfl
    | false =>
      obtain ⟨o, ho⟩ := op_at hi
      have : i ∈ Region.ready .any ops listed := by
        refine mem_ready.2 ⟨o, ho, ?_, fun e he hb => ?_⟩
        · rw [Array.getD_eq_getD_getElem?] at hl ⊢
          rw [Array.getElem?_eq_getElem (by omega)] at hl ⊢
          exact hl
        · have hlt := T.pair.edge i o ho e he hb
          exact ih e.on hlt (by omega)
      rw [h] at this
      cases this
theorem Vs_of_get {c : Cx} : ∀ {as : List AVal} {vs : List Value}, as.length = vs.length → (∀ s, V c (as.getD s undefA) (vs.getD s undef)) → Vs c as vs
  | [], [], _, _ => by simp [Vs]
  | [], _ :: _, h, _ => by simp at h
  | _ :: _, [], h, _ => by simp at h
  | a :: as, v :: vs, h, hv => by
    simp only [Vs]
    exact ⟨v, vs, rfl, by simpa using hv 0, Vs_of_get (by simpa using h) fun s => by simpa using hv (s + 1)⟩
theorem Inv.done (T : Tra S call lo n0 ops B reads touches ρs Hs) {D : Nat → Bool} {tE : Nat} {a : Act} (I : Inv S lo n0 ops ρs Hs c0 H0 D tE c a) (hall : ∀ i, i < ops.size → D i = true) (hlo : lo ≤ n0) :
    Post lo c0 H0 .normal (ρs ops.size) (Hs ops.size) .normal a c.w := by
  have hno : ∀ k, k < ops.size → effAt ops k = true → k < tE := fun k hk he => I.eff k (hall k hk) he
  obtain ⟨hlen, hst⟩ := I.still T (Nat.le_refl _) I.tEn hno
  have hnlt : ∀ b, isN S ops ρs n0 b = true → b - n0 < ops.size := fun b hN => (newW_new (isN_spec hN).2).2
  have htEn := I.tEn
  have eqt : ∀ b, b < (Hs tE).length → (Hs (tm S ops ρs n0 tE b))[b]? = (Hs ops.size)[b]? := by
    intro b hb
    refine (hst b _ (by unfold tm; split <;> omega) ?_ hb ?_).symm
    · unfold tm
      split
      · rename_i hN; have := hnlt b hN; omega
      · exact I.tEn
    · intro hN
      unfold tm
      rw [if_pos hN]
      omega
  have liv : ∀ (b : Nat) (blk : ABlk), (Hs ops.size)[b]? = some (some blk) ↔ (HD S ops ρs Hs n0 D tE)[b]? = some (some blk) := by
    intro b blk
    rw [HD_live]
    constructor
    · intro h
      have hb : b < (Hs tE).length := by have := (List.getElem?_eq_some_iff.1 h).1; omega
      exact ⟨hb, fun hN => hall _ (hnlt b hN), by rw [eqt b hb]; exact h⟩
    · rintro ⟨h1, _, h3⟩
      rw [← eqt b h1]; exact h3
  have hl2 : (HD S ops ρs Hs n0 D tE).length = (Hs ops.size).length := by rw [HD_length, hlen]
  refine ⟨rfl, I.defers, c, rfl, I.rel.sub (fun b blk h => (liv b blk).1 h) (by omega), I.tr.trans (Tr.sub fun b blk h => (liv b blk).1 h), ?_, ?_⟩
  · exact ⟨fun b blk hb h => ⟨(liv b blk).2 (I.low.low b blk hb h).1, (I.low.low b blk hb h).2⟩, I.low.dom, by have := I.low.len; omega⟩
  · refine Vs_of_get ?_ ?_
    · have h1 := T.len _ (Nat.le_refl _)
      have h2 := I.size
      have h3 : a.tmps.toList.length = a.tmps.size := Array.length_toList
      omega
    · intro s
      obtain ⟨t, h1, h2, h3, h4⟩ := I.slots s
      have := T.slot s (ops.size - t) t (by omega) (fun j hj1 hj2 hd => by
        have := h3 j (hall j (by omega)) hd
        omega)
      rw [show t + (ops.size - t) = ops.size by omega] at this
      rw [this]
      simpa [Array.getD_eq_getD_getElem?, List.getD_eq_getElem?_getD] using h4
theorem draw_any (hS : StatOk S) (hC : CallOk S call) (T : Tra S call lo n0 ops B reads touches ρs Hs) (hlo : lo ≤ n0) {Q : Exit → Act → World → Prop} (hQ : ∀ e a w, Post lo c0 H0 .normal (ρs ops.size) (Hs ops.size) e a w → Q e a w) :
    ∀ (fuel : Nat) (listed : Array Bool) (c : Cx) (a : Act) (tE : Nat), listed.size = ops.size → (listed.toList.filter id).length + fuel = ops.size → Inv S lo n0 ops ρs Hs c0 H0 (fun i => listed.getD i false) tE c a →
      wpAny S.P .any ops Q fuel listed a c.w
  | 0, listed, c, a, tE, hs, hc, I => by
    have hall : ∀ i, i < ops.size → listed.getD i false = true := by
      have : listed.toList.filter id = listed.toList := by
        refine (List.filter_sublist).eq_of_length ?_
        have h3 : listed.toList.length = listed.size := Array.length_toList
        omega
      intro i hi
      rw [List.filter_eq_self] at this
      have hm : listed[i] ∈ listed.toList := by simp
      have := this _ hm
      rw [Array.getD_eq_getD_getElem?, Array.getElem?_eq_getElem (by omega)]
      simpa using this
    refine ⟨?_, hQ _ _ _ (I.done T hall hlo)⟩
    cases hrd : Region.ready .any ops listed with
    | nil => rfl
    | cons i rest =>
      have : i ∈ Region.ready .any ops listed := by rw [hrd]; exact List.mem_cons_self ..
      obtain ⟨o, ho, h1, _⟩ := mem_ready.1 this
      have hi := (Array.getElem?_eq_some_iff.1 ho).1
      have := hall i hi
      rw [Array.getD_eq_getD_getElem?, Array.getElem?_eq_getElem (by omega)] at this h1
      simp only [Option.getD_some] at this h1
      rw [h1] at this
      cases this
  | fuel + 1, listed, c, a, tE, hs, hc, I => by
    refine ⟨fun hrd => hQ _ _ _ (I.done T (all_done T hs hrd) hlo), ?_⟩
    intro i hi
    obtain ⟨o, ho, h1, h2⟩ := mem_ready.1 hi
    have hin := (Array.getElem?_eq_some_iff.1 ho).1
    have hlf : listed[i]? = some false := by
      rw [Array.getD_eq_getD_getElem?, Array.getElem?_eq_getElem (by omega)] at h1
      simp only [Option.getD_some] at h1
      rw [Array.getElem?_eq_getElem (by omega), h1]
    have hr : Ready ops (fun i => listed.getD i false) i o := ⟨ho, by simp [Array.getD_eq_getD_getElem?, hlf], h2⟩
    refine draw_step hS hC T hlo I hr ?_
    intro tE' c' a' I'
    refine draw_any hS hC T hlo hQ fuel _ c' a' tE' (by simp [hs]) ?_ ?_
    · rw [Array.toList_setIfInBounds, count_set _ _ (by simpa using hlf)]
      omega
    · have : (fun x => (listed.setIfInBounds i true).getD x false) = (fun x => listed.getD x false || x == i) := by
        funext x
        simp only [Array.getD_eq_getD_getElem?, Array.getElem?_setIfInBounds]
        by_cases hx : i = x
        · subst hx
          rw [if_pos rfl, if_pos (by omega)]
          simp
        · rw [if_neg hx]
          have : (x == i) = false := by simp; omega
          simp [this]
      rw [this]
      exact I'
theorem drawA_sim (hS : StatOk S) (hC : CallOk S call) (hst : CallStill S call) {id : Nat} {ops : Array Oper} {ρ ρ' : List AVal} {H H' : Heap} {a : Act} (h : drawA S call lo ops ρ H = some (ρ', H')) (hR : Rel c H) (hG : GlobOk S c) (hρ : Vs c ρ a.tmps.toList) (hd : a.defers = []) :
    (Code.region id ops true).wp S.P (Post lo c H .normal ρ' H') a c.w := by
  unfold drawA at h
  simp only at h
  split at h
  case isFalse => cases h
  rename_i hok
  simp only [Bool.and_eq_true, decide_eq_true_eq] at hok
  obtain ⟨hok, hlo⟩ := hok
  split at h
  · cases h
  · rename_i r hgo
    split at h
    case isFalse => cases h
    rename_i hap
    simp only [Option.some.injEq, Prod.mk.injEq] at h
    obtain ⟨rfl, rfl⟩ := h
    obtain ⟨ρs, Hs, e1, e2, e3, e4, hstep⟩ := drawGo_trace ops.toList 0 _ _ r hgo (fun j => by simp) (by simp)
    have hpair := regionOk_spec hok
    have hlen0 : H.length ≤ (Hs 0).length := by rw [e2]; split <;> simp
    have T : Tra S call lo H.length ops (befs ops.toList []) r.reads r.touches ρs Hs := by
      refine ⟨fun j o ho => hstep j o (Nat.zero_le _) ho, hpair, befs_ok ops, fun i k hk => befs_lt hpair.edge ops.toList [] (fun j => by simp) (fun i k h => by simp at h) i k hk, hap, hst, ?_⟩
      intro m hm hn
      have hany : ops.any (fun o => isNewB o.op) = true := by
        rw [Array.any_eq_true]
        refine ⟨m, hm, ?_⟩
        simpa [newAt, hm] using hn
      rw [e2, if_pos hany]
      simp
      exact hm
    -- nothing that lives at first is new
    have hliv0 : ∀ (b : Nat) (blk : ABlk), (Hs 0)[b]? = some (some blk) ↔ H[b]? = some (some blk) := by
      intro b blk
      rw [e2]
      split
      · rcases Nat.lt_or_ge b H.length with h1 | h1
        · rw [List.getElem?_append_left h1]
        · rw [List.getElem?_append_right h1, List.getElem?_eq_none h1, List.getElem?_replicate]
          split <;> simp
      · exact Iff.rfl
    have hfr : ∀ m, c.ι (H.length + m) = none := fun m => hR.fresh _ (by omega)
    let c1 : Cx := { c with w := c.w.drew }
    have hdr := hR.drew
    have hliv : ∀ (b : Nat) (blk : ABlk), (HD S ops ρs Hs H.length (fun _ => false) 0)[b]? = some (some blk) ↔ H[b]? = some (some blk) := by
      intro b blk
      rw [HD_live]
      constructor
      · rintro ⟨_, h2, h3⟩
        have hN : isN S ops ρs H.length b = false := by
          cases h : isN S ops ρs H.length b with
          | false => rfl
          | true => have := h2 h; cases this
        have : tm S ops ρs H.length 0 b = 0 := by simp [tm, hN]
        rw [this] at h3
        exact (hliv0 b blk).1 h3
      · intro hb
        have hbl : b < H.length := (List.getElem?_eq_some_iff.1 hb).1
        have hN : isN S ops ρs H.length b = false := by simp [isN]; omega
        have : tm S ops ρs H.length 0 b = 0 := by simp [tm, hN]
        rw [this]
        exact ⟨by omega, fun h => (by rw [hN] at h; cases h), (hliv0 b blk).2 hb⟩
    have hHDl : (HD S ops ρs Hs H.length (fun _ => false) 0).length = (Hs 0).length := HD_length _ _
    have I : Inv S lo H.length ops ρs Hs c H (fun _ => false) 0 c1 a := by
      refine ⟨Nat.zero_le _, (fun j hj => by cases hj), .inl rfl, ?_, ?_, ?_, ?_, ?_, fun m _ _ => hfr m, hd, (fun i o _ hi => by cases hi), (fun i hi => by cases hi), hG.ext hdr.2.ext, Nat.le_refl _⟩
      · intro s
        refine ⟨0, Nat.zero_le _, .inl rfl, (fun j hj => by cases hj), ?_⟩
        rw [e1]
        have := Vs_getD (Vs_ext hdr.2.ext _ _ hρ) s
        simpa [Array.getD_eq_getD_getElem?, List.getD_eq_getElem?_getD] using this
      · rw [e1]
        have := Vs_length hρ
        simpa using this.symm
      · exact hdr.1.sub (fun b blk h => (hliv b blk).1 h) (by omega)
      · exact hdr.2.trans (Tr.sub fun b blk h => (hliv b blk).1 h)
      · exact ⟨fun b blk _ h => ⟨(hliv b blk).2 h, fun _ _ _ => rfl⟩, fun _ _ h => h, by omega⟩
    refine wp_region_any hS.mixed ?_
    have hfun : (fun i => (Array.replicate ops.size false).getD i false) = (fun _ => false) := by
      funext i
      simp only [Array.getD_eq_getD_getElem?, Array.getElem?_replicate]
      split <;> rfl
    refine draw_any (c0 := c) (H0 := H) hS hC T hlo (fun e a w hp => ?_) ops.size _ c1 a 0 (by simp) (by simp) (by rw [hfun]; exact I)
    rw [e3, e4] at hp
    exact hp
end Go.Am

/- That the model's run keeps to the idealised one: code and calls. Generic: over any program. -/
namespace Go.Am
open Go.RowKit
theorem opsA_sim {S : AStat} (hS : StatOk S) {call : CallF} (hC : CallOk S call) {lo : Nat} {ops : Array Oper} {Q : Exit → Act → World → Prop} :
    ∀ (l : List Oper) {ρ : List AVal} {H : Heap} {ρ' : List AVal} {H' : Heap} {c : Cx} {a : Act}, opsA S call lo ops.toList l ρ H = some (ρ', H') → Rel c H → GlobOk S c → Vs c ρ a.tmps.toList → a.defers = [] →
      (∀ e a' w', Post lo c H .normal ρ' H' e a' w' → Q e a' w') → wpList S.P ops Q l a c.w
  | [], ρ, H, ρ', H', c, a, h, hR, hG, hρ, hd, hQ => by
    simp only [opsA, Option.some.injEq, Prod.mk.injEq] at h
    obtain ⟨rfl, rfl⟩ := h
    exact hQ _ _ _ ⟨rfl, hd, c, rfl, hR, Tr.refl _ _, Low.refl _ _ _, hρ⟩
  | o :: l, ρ, H, ρ', H', c, a, h, hR, hG, hρ, hd, hQ => by
    simp only [opsA] at h
    split at h
    · cases h
    · rename_i hg
      have hw := guardA_sim hg hρ
      simp only [wpList]
      rw [if_neg (by rw [hw]; simp)]
      exact opsA_sim hS hC l h hR hG (putA_Vs hρ o.dst (undef_V c)) (by rw [put_defers]; exact hd) hQ
    · rename_i hg
      have hw := guardA_sim hg hρ
      simp only [wpList]
      rw [if_pos hw]
      split at h
      · cases h
      · rename_i v H1 hop
        refine .inl (opA_sim hS hC hR hG o (fun x _ => evalA_V hG hρ x) hop ?_)
        intro c' u h1 h2 h3 h4
        refine opsA_sim hS hC l h h1 (hG.ext h2.ext) (putA_Vs (Vs_ext h2.ext _ _ hρ) o.dst h4) (by rw [put_defers]; exact hd) ?_
        intro e a' w' hp
        exact hQ e a' w' (hp.trans h2 h3)
def Cx.pop (c : Cx) (H : Heap) (n0 n : Nat) : Cx :=
  { c with
    ι := fun b => if b < n then c.ι b else none
    I := fun B => c.I B ∨ ∃ b blk base, n0 ≤ b ∧ H[b]? = some (some blk) ∧ c.ι b = some (B, base) }
theorem pop_pure (c : Cx) (H : Heap) (n0 n : Nat) : (c.pop H n0 n).pure = c.pop H n0 0 := by
  simp [Cx.pop, Cx.pure]
theorem pure_pop (c : Cx) (H : Heap) (n0 n : Nat) : Ext c.pure (c.pop H n0 n).pure :=
  ⟨(fun _ _ h => by cases h), rfl, (fun _ h => .inl h), fun _ _ => rfl, fun _ _ _ h => h⟩
theorem frzs_sim {f : AVal → Option AVal} {c c' : Cx} (hf : ∀ a b, f a = some b → ∀ v, V c a v → V c' b v) : ∀ (as : List AVal) {bs : List AVal}, frzs f as = some bs → ∀ vs, Vs c as vs → Vs c' bs vs
  | [], bs, h, vs, hv => by
    simp only [frzs, Option.some.injEq] at h
    subst h
    simpa [Vs] using hv
  | a :: as, bs, h, vs, hv => by
    simp only [frzs] at h
    split at h
    · cases h
    · rename_i b hb
      split at h
      · cases h
      · rename_i bs' hbs
        simp only [Option.some.injEq] at h
        subst h
        simp only [Vs] at hv ⊢
        obtain ⟨v, us, rfl, h1, h2⟩ := hv
        exact ⟨v, us, rfl, hf a b hb v h1, frzs_sim hf as hbs us h2⟩
theorem frzss_sim {f : AVal → Option AVal} {c c' : Cx} (hf : ∀ a b, f a = some b → ∀ v, V c a v → V c' b v) (sz : Nat) : ∀ (rs : List (List AVal)) {bs : List (List AVal)}, frzss f rs = some bs → bs.length = rs.length ∧ ∀ vs, Vss c sz rs vs → Vss c' sz bs vs
  | [], bs, h => by
    simp only [frzss, Option.some.injEq] at h
    subst h
    exact ⟨rfl, fun vs hv => by simpa [Vss] using hv⟩
  | a :: as, bs, h => by
    simp only [frzss] at h
    split at h
    · cases h
    · rename_i b hb
      split at h
      · cases h
      · rename_i bs' hbs
        simp only [Option.some.injEq] at h
        subst h
        obtain ⟨h3, h4⟩ := frzss_sim hf sz as hbs
        refine ⟨by simp [h3], fun vs hv => ?_⟩
        simp only [Vss] at hv ⊢
        obtain ⟨us, ws, rfl, hl, h1, h2⟩ := hv
        exact ⟨us, ws, rfl, hl, frzs_sim hf a hb us h1, h4 ws h2⟩
def topN (n0 : Nat) (top : Bool) : Nat := if top then n0 else 0
theorem frz_sim {c : Cx} {H : Heap} (hR : Rel c H) (n0 : Nat) : ∀ (k : Nat) (top : Bool) (a : AVal) {b : AVal}, frz n0 H top k a = some b → ∀ v, V c a v → V (c.pop H n0 (topN n0 top)) b v
  | 0, _, _, _, h, _, _ => by cases h
  | k + 1, top, a, b, h, v, hv => by
    have ih := fun a b h v hv => frz_sim hR n0 k top a (b := b) h v hv
    have ih0 := fun a b h v hv => frz_sim hR n0 k false a (b := b) h v hv
    have pure0 : c.pop H n0 (topN n0 false) = (c.pop H n0 (topN n0 top)).pure := (pop_pure c H n0 (topN n0 top)).symm
    rw [pure0] at ih0
    have old : ∀ x B base, x < n0 → top = true → c.ι x = some (B, base) → (c.pop H n0 (topN n0 top)).ι x = some (B, base) := by
      intro x B base h1 h2 h3
      subst h2
      simp only [Cx.pop, topN]
      rw [if_pos (by simpa using h1)]
      exact h3
    unfold frz at h
    cases a <;> simp only at h
    case agg cs =>
      rw [Option.map_eq_some_iff] at h
      obtain ⟨bs, h1, rfl⟩ := h
      simp only [V] at hv ⊢
      obtain ⟨vs, rfl, h2⟩ := hv
      exact ⟨vs, rfl, frzs_sim ih cs h1 vs h2⟩
    case tup cs =>
      rw [Option.map_eq_some_iff] at h
      obtain ⟨bs, h1, rfl⟩ := h
      simp only [V] at hv ⊢
      obtain ⟨vs, rfl, h2⟩ := hv
      exact ⟨vs, rfl, frzs_sim ih cs h1 vs h2⟩
    case iface t x =>
      rw [Option.map_eq_some_iff] at h
      obtain ⟨y, h1, rfl⟩ := h
      simp only [V] at hv ⊢
      obtain ⟨u, rfl, h2⟩ := hv
      exact ⟨u, rfl, ih x y h1 u h2⟩
    case fn f x y =>
      split at h
      · rename_i x' y' h1 h2
        simp only [Option.some.injEq] at h
        subst h
        simp only [V] at hv ⊢
        obtain ⟨vs, us, rfl, h3, h4⟩ := hv
        exact ⟨vs, us, rfl, frzs_sim ih x h1 vs h3, frzs_sim ih y h2 us h4⟩
      · cases h
    case ptr x off =>
      simp only [V] at hv
      obtain ⟨B, base, hi, rfl⟩ := hv
      split at h
      · rename_i hlt
        split at h
        · rename_i ht
          simp only [Option.some.injEq] at h
          subst h
          simp only [V]
          exact ⟨B, base, old x B base hlt ht hi, rfl⟩
        · cases h
      · rename_i hlt
        split at h
        · rename_i cs hb
          rw [Option.map_eq_some_iff] at h
          obtain ⟨bs, h1, rfl⟩ := h
          obtain ⟨B0, base0, h3, _, _, _, _, vs, ha, hvs⟩ := hR.blk x _ hb
          rw [hi] at h3
          simp only [Option.some.injEq, Prod.mk.injEq] at h3
          obtain ⟨rfl, rfl⟩ := h3
          simp only [V]
          exact ⟨B, base + off, vs.drop off, rfl, .inr ⟨x, _, base, by omega, hb, hi⟩, At_drop off ha, frzs_sim ih0 _ h1 _ (Vs_drop off hvs)⟩
        · cases h
    case sl sz x off len cap ex =>
      simp only [V] at hv
      obtain ⟨B, base, kk, o, hi, rfl, ho, g1, g2, g3, g4⟩ := hv
      split at h
      · rename_i hlt
        split at h
        · rename_i ht
          simp only [Option.some.injEq] at h
          subst h
          simp only [V]
          exact ⟨B, base, kk, o, old x B base hlt ht hi, rfl, ho, g1, g2, g3, g4⟩
        · cases h
      · rename_i hlt
        split at h
        · rename_i cs hb
          split at h
          · rename_i hle
            rw [Option.map_eq_some_iff] at h
            obtain ⟨bs, h1, rfl⟩ := h
            obtain ⟨B0, base0, h3, _, _, _, _, vs, ha, hvs⟩ := hR.blk x _ hb
            rw [hi] at h3
            simp only [Option.some.injEq, Prod.mk.injEq] at h3
            obtain ⟨rfl, rfl⟩ := h3
            have hl := Vs_length hvs
            have hch := chunk_Vss (sz := sz) len (Vs_drop off hvs) (by simp; omega)
            obtain ⟨h5, h6⟩ := frzss_sim ih0 sz _ h1
            rw [chunk_length] at h5
            have hIx : (c.pop H n0 (topN n0 top)).I B := .inr ⟨x, _, base, by omega, hb, hi⟩
            simp only [V, h5]
            by_cases hk : 0 < kk
            · have ho' := ho hk
              subst ho'
              refine ⟨⟨B, base + off, none⟩, kk, _, rfl, by omega, ?_, .inr ⟨rfl, hIx, At_take _ (At_drop off ha)⟩, h6 _ hch⟩
              intro he
              simp only [Bool.and_eq_true, beq_iff_eq] at he
              have := g3 he.1
              omega
            · have hl0 : len = 0 := by omega
              subst hl0
              have hbs : bs = [] := List.eq_nil_of_length_eq_zero h5
              subst hbs
              exact ⟨⟨B, o, none⟩, kk, [], rfl, by omega, (fun _ => by omega), .inl rfl, by simp [Vss]⟩
          · cases h
        · cases h
    case mapr x =>
      split at h
      · rename_i hlt
        simp only [Option.some.injEq] at h
        subst h
        simp only [V] at hv ⊢
        obtain ⟨B, h1, rfl⟩ := hv
        exact ⟨B, old x B 0 hlt.1 hlt.2 h1, rfl⟩
      · cases h
    case ipt cs =>
      simp only [Option.some.injEq] at h
      subst h
      simp only [V] at hv ⊢
      obtain ⟨B, off, vs, rfl, hI, ha, hvs⟩ := hv
      exact ⟨B, off, vs, rfl, .inl hI, ha, Vs_ext (pure_pop c H n0 _) _ _ hvs⟩
    case eptr id cs =>
      simp only [Option.some.injEq] at h
      subst h
      simp only [V] at hv ⊢
      obtain ⟨B, o, vs, hn, e1, rfl, hI, ha, hvs, hc⟩ := hv
      exact ⟨B, o, vs, hn, e1, rfl, .inl hI, ha, Vs_ext (pure_pop c H n0 _) _ _ hvs, hc⟩
    case list sz rows ex =>
      simp only [Option.some.injEq] at h
      subst h
      simp only [V] at hv ⊢
      obtain ⟨a, cap, vs, rfl, h1, h2, hm, hvs⟩ := hv
      exact ⟨a, cap, vs, rfl, h1, h2, hm.imp_right fun h => ⟨h.1, .inl h.2.1, h.2.2⟩, Vss_ext (pure_pop c H n0 _) _ _ _ hvs⟩
    all_goals (simp only [Option.some.injEq] at h; subst h)
    all_goals (simp only [V] at hv ⊢)
    all_goals exact hv
theorem pop_sim {lo : Nat} {c c' : Cx} {H H' : Heap} (hR : Rel c H) (hR' : Rel c' H') (hT : Tr c H c' H') (hL : Low H.length c H c' H') :
    Rel (c'.pop H' H.length H.length) H ∧ Tr c H (c'.pop H' H.length H.length) H ∧ Low lo c H (c'.pop H' H.length H.length) H := by
  have hlen : ∀ (b : Nat) (blk : ABlk), H[b]? = some (some blk) → b < H.length := by
    intro b blk h
    rcases Nat.lt_or_ge b H.length with h1 | h1
    · exact h1
    · rw [List.getElem?_eq_none h1] at h; cases h
  have hι : ∀ b x, c.ι b = some x → (c'.pop H' H.length H.length).ι b = some x := by
    intro b x h
    have : b < H.length := by
      rcases Nat.lt_or_ge b H.length with h1 | h1
      · exact h1
      · rw [hR.fresh b h1] at h; cases h
    simp only [Cx.pop]
    rw [if_pos this]
    exact hT.ext.ι b x h
  have hE : Ext c (c'.pop H' H.length H.length) := ⟨hι, hT.ext.θ, fun B hB => .inl (hT.ext.I B hB), hT.ext.kept, hT.ext.shape⟩
  have hιback : ∀ b blk, H[b]? = some (some blk) → ∀ x, (c'.pop H' H.length H.length).ι b = some x → c.ι b = some x := by
    intro b blk hb x h
    obtain ⟨B, base, h1, _⟩ := hR.blk b blk hb
    rw [hι b _ h1] at h
    rw [h1, h]
  refine ⟨⟨?_, ?_, ?_, ?_⟩, ⟨hE, hT.size, hT.frame, ?_, ?_, hT.os, hT.tape, hT.output⟩, ⟨?_, ?_, Nat.le_refl _⟩⟩
  · intro b blk hb
    obtain ⟨B, base, h1, h2, h3, h4⟩ := hR.blk b blk hb
    obtain ⟨h5, h6⟩ := hL.low b blk (hlen b blk hb) hb
    refine ⟨B, base, hι b _ h1, ?_, Nat.lt_of_lt_of_le h3 hT.size, h4.ext hE (h6 B base h1)⟩
    rintro (hi | ⟨x, y, base', hx, hy, hxi⟩)
    · obtain ⟨B2, base2, h7, h8, _⟩ := hR'.blk b blk h5
      rw [hT.ext.ι b _ h1] at h7
      simp only [Option.some.injEq, Prod.mk.injEq] at h7
      obtain ⟨rfl, rfl⟩ := h7
      exact h8 hi
    · have := hR'.inj b x blk y B base base' h5 hy (hT.ext.ι b _ h1) hxi
      have := hlen b blk hb
      omega
  · intro b b' blk blk' B base base' h1 h2 h3 h4
    exact hR.inj b b' blk blk' B base base' h1 h2 (hιback b blk h1 _ h3) (hιback b' blk' h2 _ h4)
  · intro b hb
    simp only [Cx.pop]
    rw [if_neg (by omega)]
  · intro B hB
    rcases hB with hB | ⟨b, blk, base, _, h1, h2⟩
    · exact hR'.lt B hB
    · obtain ⟨B', base', h3, _, h4, _⟩ := hR'.blk b blk h1
      rw [h2] at h3
      simp only [Option.some.injEq, Prod.mk.injEq] at h3
      obtain ⟨rfl, rfl⟩ := h3
      exact h4
  · rintro B _ ⟨b, blk, base, h1, h2⟩
    exact ⟨b, blk, base, h1, hιback b blk h1 _ h2⟩
  · rintro B hB (hi | ⟨b, blk, base, _, h1, h2⟩)
    · exact hT.imm B hB hi
    · exact .inr (hT.img B hB ⟨b, blk, base, h1, h2⟩)
  · intro b blk _ hb
    obtain ⟨_, h6⟩ := hL.low b blk (hlen b blk hb) hb
    exact ⟨hb, h6⟩
  · intro b hb h
    simp only [Cx.pop]
    rw [if_pos hb]
    exact hL.dom b hb h
theorem resultA_sim {S : AStat} {c : Cx} {H : Heap} {ρ : List AVal} {tmps : Array Value} (hR : Rel c H) (hρ : Vs c ρ tmps.toList) : ∀ (r : ResultVar) {v : AVal}, resultA S ρ H r = some v →
    ∃ u, (match r with | .tmp t => pure (tmps.getD t undef) | .cell a t => do loadVar t (← asAddr (tmps.getD a undef)) : Sem Value).run S.P c.w = .ok u c.w ∧ V c v u := by
  have hget : ∀ t, V c (ρ.getD t undefA) (tmps.getD t undef) := by
    intro t
    have := Vs_getD hρ t
    simpa [Array.getD_eq_getD_getElem?, List.getD] using this
  intro r v h
  cases r with
  | tmp t =>
    simp only [resultA, Option.some.injEq] at h
    subst h
    exact ⟨_, rfl, hget t⟩
  | cell a t =>
    simp only [resultA] at h
    have hl := h
    unfold loadA at h
    rw [Option.bind_eq_some_iff] at h
    obtain ⟨cs, h1, h2⟩ := h
    obtain ⟨B, o, vs, e, ha, hvs⟩ := atA_sim hR h1 (hget a)
    obtain ⟨u, h3, h4⟩ := run_loadVar (P := S.P) h2 hvs ha
    exact ⟨u, by simp only [e, asAddr, Sem.run_bind, Sem.run_pure, Result.andThen_ok, h3], h4⟩
theorem resultsA_sim {S : AStat} {c : Cx} {H : Heap} {ρ : List AVal} {tmps : Array Value} (hR : Rel c H) (hρ : Vs c ρ tmps.toList) : ∀ (rs : List ResultVar) {vs : List AVal}, resultsA S ρ H rs = some vs →
    ∃ us, (rs.mapM (fun | .tmp t => pure (tmps.getD t undef) | .cell a t => do loadVar t (← asAddr (tmps.getD a undef))) : Sem (List Value)).run S.P c.w = .ok us c.w ∧ Vs c vs us
  | [], vs, h => by
    simp only [resultsA, Option.some.injEq] at h
    subst h
    exact ⟨[], rfl, by simp [Vs]⟩
  | r :: rs, vs, h => by
    simp only [resultsA] at h
    split at h
    · cases h
    · rename_i v hv
      split at h
      · cases h
      · rename_i vs' hvs
        simp only [Option.some.injEq] at h
        subst h
        obtain ⟨u, h1, h2⟩ := resultA_sim hR hρ r hv
        obtain ⟨us, h3, h4⟩ := resultsA_sim hR hρ rs hvs
        refine ⟨u :: us, ?_, by simp only [Vs]; exact ⟨_, _, rfl, h2, h4⟩⟩
        rw [List.mapM_cons]
        simp only [Sem.run_bind, h1, h3, Result.andThen_ok, Sem.run_pure]
theorem results_sim {S : AStat} {c : Cx} {H : Heap} {ρ : List AVal} {tmps : Array Value} (hR : Rel c H) (hρ : Vs c ρ tmps.toList) (fn : Func) {vs : List AVal} (h : resultsA S ρ H fn.results.toList = some vs) :
    ∃ u, (results fn tmps).run S.P c.w = .ok u c.w ∧ V c (tupled vs) u := by
  obtain ⟨us, h1, h2⟩ := resultsA_sim hR hρ _ h
  have hl := Vs_length h2
  refine ⟨if h : us.toArray.size = 1 then us.toArray[0] else .tuple us.toArray, ?_, ?_⟩
  · unfold results
    rw [Array.mapM_eq_mapM_toList]
    simp only [Sem.run_bind, Sem.run_map]
    erw [h1]
    rfl
  · unfold tupled
    split
    · rename_i v
      simp only [Vs] at h2
      obtain ⟨u, _, rfl, h3, rfl⟩ := h2
      simpa using h3
    · rename_i hne
      have : ¬ us.toArray.size = 1 := by
        intro e
        simp only [List.size_toArray] at e
        match vs, hl, hne with
        | [v], _, hne => exact hne v rfl
        | [], hl, _ => simp at hl; omega
        | _ :: _ :: _, hl, _ => simp at hl; omega
      rw [dif_neg this]
      simp only [V]
      exact ⟨us, rfl, h2⟩
theorem callA_ok {S : AStat} (hS : StatOk S) {K : Nat} {rec : ExecF} (hE : ExecOk S K rec) : CallOk S (callA S rec) := by
  intro lo f args H r H' h c vs hR hG hvs
  unfold callA at h
  split at h
  · rename_i hk hhk
    exact hS.hook f hk hhk lo args H r H' h c vs hR hG hvs
  · split at h
    · cases h
    · rename_i fn hf
      split at h
      · cases h
      · rename_i body hb
        refine ⟨⟨fn, hf, by simp [hb]⟩, ?_⟩
        refine calls_of_wp hf hb ?_
        have hlen := Vs_length hvs
        have hargs : Vs c (args ++ List.replicate (fn.ntmps - args.length) undefA) (vs.toArray ++ Array.replicate (fn.ntmps - vs.toArray.size) undef).toList := by
          have : (vs.toArray ++ Array.replicate (fn.ntmps - vs.toArray.size) undef).toList = vs ++ List.replicate (fn.ntmps - args.length) undef := by
            simp [hlen]
          rw [this]
          exact Vs_append hvs (Vs_replicate (undef_V c) _)
        split at h
        · cases h
        · cases h
        · rename_i x ρ H1 hne hrec
          have hwp := (hE _ _ _ _ _ _ _ hrec c { tmps := vs.toArray ++ Array.replicate (fn.ntmps - vs.toArray.size) undef, defers := [] } hR hG hargs rfl).1
          refine wp_mono hwp ?_
          rintro e a' w' ⟨he, hd, c', rfl, h1, h2, h3, h4⟩
          split at h
          · cases h
          · rename_i rs hrs
            obtain ⟨u, h5, h6⟩ := results_sim h1 h4 fn hrs
            have fin : ∃ c'', c''.w = c'.w ∧ Rel c'' H' ∧ Tr c H c'' H' ∧ Low lo c H c'' H' ∧ V c'' r u := by
              unfold finish at h
              split at h
              · rename_i hp
                simp only [Option.some.injEq, Prod.mk.injEq] at h
                obtain ⟨rfl, rfl⟩ := h
                rw [hp] at h3
                exact ⟨c', rfl, h1, h2, h3, h6⟩
              · rename_i hp
                rw [Option.map_eq_some_iff] at h
                obtain ⟨v', h7, h8⟩ := h
                simp only [Prod.mk.injEq] at h8
                obtain ⟨rfl, rfl⟩ := h8
                rw [hp] at h3
                obtain ⟨g1, g2, g3⟩ := pop_sim (lo := lo) hR h1 h2 h3
                exact ⟨c'.pop H1 H.length H.length, rfl, g1, g2, g3, frz_sim h1 H.length 64 true _ h7 u h6⟩
              · rename_i hp
                simp only [Option.some.injEq, Prod.mk.injEq] at h
                obtain ⟨rfl, rfl⟩ := h
                rw [hp] at h3
                exact ⟨c', rfl, h1, h2, h3.mono (by simp only [Pol.lo]; omega), h6⟩
            obtain ⟨c'', hw, g1, g2, g3, g4⟩ := fin
            subst he
            cases x with
            | normal => exact ⟨hd, u, h5, u, c'', rfl, hw, g1, g2, g3, g4⟩
            | ret => exact ⟨hd, u, h5, u, c'', rfl, hw, g1, g2, g3, g4⟩
            | exit id => exact (hne _ rfl).elim
theorem rounds_mono {P : Program} {b : Code} {Q Q' : Exit → Act → World → Prop} (hq : ∀ e a w, Q e a w → Q' e a w) : ∀ (k : Nat) {a : Act} {w : World}, Code.rounds P b Q k a w → Code.rounds P b Q' k a w
  | 0, _, _, h => h
  | k + 1, a, w, h => by
    refine wp_mono h ?_
    intro e a' w' he
    cases e with
    | normal => exact rounds_mono hq k he
    | _ => exact hq _ _ _ he
theorem stepA_ok {S : AStat} (hS : StatOk S) {K : Nat} {rec : ExecF} (hL : RecLow rec) (hE : ExecOk S K rec) : ExecOk S (K + 1) (stepA S rec) := by
  intro lo code ρ H x ρ' H' h c a hR hG hρ hd
  have here : Post lo c H .normal ρ H .normal a c.w := ⟨rfl, hd, c, rfl, hR, Tr.refl _ _, Low.refl _ _ _, hρ⟩
  unfold stepA at h
  split at h
  · simp only [Option.some.injEq, Prod.mk.injEq] at h
    obtain ⟨rfl, rfl, rfl⟩ := h
    exact ⟨wp_skip here, (fun b e => by cases e)⟩
  · simp only [Option.some.injEq, Prod.mk.injEq] at h
    obtain ⟨rfl, rfl, rfl⟩ := h
    exact ⟨wp_label here, (fun b e => by cases e)⟩
  · simp only [Option.some.injEq, Prod.mk.injEq] at h
    obtain ⟨rfl, rfl, rfl⟩ := h
    exact ⟨wp_ret ⟨rfl, hd, c, rfl, hR, Tr.refl _ _, Low.refl _ _ _, hρ⟩, (fun b e => by cases e)⟩
  · rename_i id
    simp only [Option.some.injEq, Prod.mk.injEq] at h
    obtain ⟨rfl, rfl, rfl⟩ := h
    exact ⟨wp_exit ⟨rfl, hd, c, rfl, hR, Tr.refl _ _, Low.refl _ _ _, hρ⟩, (fun b e => by cases e)⟩
  · rename_i p q
    refine ⟨?_, (fun b e => by cases e)⟩
    split at h
    · rename_i ρ1 H1 h1
      refine wp_seq (wp_mono (hE _ _ _ _ _ _ _ h1 c a hR hG hρ hd).1 ?_)
      rintro e a1 w1 ⟨rfl, hd1, c1, rfl, g1, g2, g3, g4⟩
      exact wp_mono (hE _ _ _ _ _ _ _ h c1 a1 g1 (hG.ext g2.ext) g4 hd1).1 fun e a' w' hp => hp.trans g2 g3
    · rename_i hne
      refine wp_seq (wp_mono (hE _ _ _ _ _ _ _ h c a hR hG hρ hd).1 ?_)
      rintro e a1 w1 hp
      obtain ⟨he, hp2⟩ := hp
      cases x with
      | normal => exact (hne _ _ h).elim
      | exit id => subst he; exact ⟨rfl, hp2⟩
      | ret => subst he; exact ⟨rfl, hp2⟩
  · rename_i cnd p q
    refine ⟨?_, (fun b e => by cases e)⟩
    have hc := evalA_V hG hρ cnd
    split at h
    · rename_i e
      rw [e] at hc
      simp only [V] at hc
      exact wp_cond_true hc (hE _ _ _ _ _ _ _ h c a hR hG hρ hd).1
    · rename_i e
      rw [e] at hc
      simp only [V] at hc
      exact wp_cond_false hc (hE _ _ _ _ _ _ _ h c a hR hG hρ hd).1
    · cases h
  · rename_i id p
    refine ⟨?_, (fun b e => by cases e)⟩
    split at h
    · rename_i i ρ1 H1 h1
      refine wp_block (wp_mono (hE _ _ _ _ _ _ _ h1 c a hR hG hρ hd).1 ?_)
      rintro e a1 w1 ⟨rfl, hp⟩
      simp only [AExit.toExit, Exit.inBlock]
      split at h
      · rename_i hi
        simp only [Option.some.injEq, Prod.mk.injEq] at h
        obtain ⟨rfl, rfl, rfl⟩ := h
        rw [if_pos hi]
        exact ⟨rfl, hp⟩
      · rename_i hi
        simp only [Option.some.injEq, Prod.mk.injEq] at h
        obtain ⟨rfl, rfl, rfl⟩ := h
        rw [if_neg hi]
        exact ⟨rfl, hp⟩
    · rename_i hne
      refine wp_block (wp_mono (hE _ _ _ _ _ _ _ h c a hR hG hρ hd).1 ?_)
      rintro e a1 w1 ⟨rfl, hp⟩
      cases x with
      | normal => exact ⟨rfl, hp⟩
      | exit id => exact (hne _ _ _ h).elim
      | ret => exact ⟨rfl, hp⟩
  · rename_i p
    have main : Code.rounds S.P p (Post lo c H x ρ' H') (K + 1) a c.w := by
      split at h
      · rename_i ρ1 H1 h1
        refine wp_mono (hE _ _ _ _ _ _ _ h1 c a hR hG hρ hd).1 ?_
        rintro e a1 w1 ⟨rfl, hd1, c1, rfl, g1, g2, g3, g4⟩
        exact rounds_mono (fun e a' w' hp => hp.trans g2 g3) K ((hE _ _ _ _ _ _ _ h c1 a1 g1 (hG.ext g2.ext) g4 hd1).2 p rfl)
      · rename_i hne
        refine wp_mono (hE _ _ _ _ _ _ _ h c a hR hG hρ hd).1 ?_
        rintro e a1 w1 ⟨rfl, hp⟩
        cases x with
        | normal => exact (hne _ _ h).elim
        | exit id => exact ⟨rfl, hp⟩
        | ret => exact ⟨rfl, hp⟩
    refine ⟨wp_loop_rounds (K + 1) main, fun b e => ?_⟩
    cases e
    exact main
  · rename_i id ops draw
    refine ⟨?_, (fun b e => by cases e)⟩
    split at h
    · rename_i hd1
      subst hd1
      rw [Option.map_eq_some_iff] at h
      obtain ⟨⟨ρ1, H1⟩, h1, h2⟩ := h
      simp only [Prod.mk.injEq] at h2
      obtain ⟨rfl, rfl, rfl⟩ := h2
      exact drawA_sim hS (callA_ok hS hE) (callA_still S hL) h1 hR hG hρ hd
    · rename_i hd0
      rw [Option.map_eq_some_iff] at h
      obtain ⟨⟨ρ1, H1⟩, h1, h2⟩ := h
      simp only [Prod.mk.injEq] at h2
      obtain ⟨rfl, rfl, rfl⟩ := h2
      have hdf : draw = false := by simpa using hd0
      subst hdf
      exact wp_region_list (opsA_sim hS (callA_ok hS hE) _ h1 hR hG hρ hd fun e a' w' hp => hp)
  · cases h
theorem execA_ok {S : AStat} (hS : StatOk S) : ∀ n, ExecOk S n (execA S n)
  | 0 => fun lo code ρ H x ρ' H' h => by cases h
  | n + 1 => stepA_ok hS (execA_low (fun f hk h lo args H r H' e => hS.low f hk h lo args H r H' e) n) (execA_ok hS n)
theorem runA_ok {S : AStat} (hS : StatOk S) (n : Nat) : CallOk S (runA S n) := callA_ok hS (execA_ok hS n)
end Go.Am

/- The idealised run at the top of a claim: what it computes the model's call answers, and of what was there nothing turns. Generic: over any program. -/
namespace Go.Am
open Go.RowKit Go.ChangeShapes Go.WideShapes Go.ChangeAt
def cx0 (W : World) (θ : List (Nat × Nat) := []) : Cx := { ι := fun _ => none, θ := θ, I := fun B => B < W.heap.size, w := W }
theorem rel0 (W : World) (θ : List (Nat × Nat) := []) : Rel (cx0 W θ) [] where
  blk := fun b blk h => by simp at h
  inj := fun b b' blk blk' B base base' h => by simp at h
  fresh := fun _ _ => rfl
  lt := fun _ h => h
theorem tr0_below {W : World} {θ : List (Nat × Nat)} {c' : Cx} {H' : Heap} (h : Tr (cx0 W θ) [] c' H') : Go.RowKit.Below W.heap.size W c'.w where
  os := h.os
  tape := h.tape
  output := h.output
  size := h.size
  block := fun k hk => h.frame k hk (fun ⟨b, blk, base, hb, _⟩ => by simp at hb)
theorem law_calls {S : AStat} (hS : StatOk S) {W : World} {θ : List (Nat × Nat)} (hG : GlobOk S (cx0 W θ)) {n : Nat} {f : FuncId} {av : List AVal} {args : Array Value} (hv : Vs (cx0 W θ) av args.toList)
    {H' : Heap} (h : runA S n 0 f av [] = some (.bool true, H')) :
    Calls S.P f args W fun e w' => e = .returned (.bool true) ∧ Go.RowKit.Below W.heap.size W w' := by
  have := (runA_ok hS n 0 f av [] _ _ h (cx0 W θ) args.toList (rel0 W θ) hG hv).2
  rw [Array.toArray_toList] at this
  refine this.mono fun e w' hp => ?_
  obtain ⟨v, c', rfl, rfl, hR, hT, hL, hV⟩ := hp
  simp only [V] at hV
  subst hV
  exact ⟨rfl, tr0_below hT⟩
section
variable {H : Type} {enc : TypeId × Value → H} {P : Program}
theorem trodAll_below (hl : laidOutB P = true) {W W' : World} (hb : Go.RowKit.Below W.heap.size W W') :
    ∀ {ts : List TypeId} {vs : List Value} {ds : List (DataW H)} {ps : List MemPlace}, (ts.all fun t => P.readableRec t && decide (t < P.types.size)) = true →
    DataW.TrodAll enc P W 0 (fun _ => true) true ts vs ds ps → (∀ x ∈ ps, x.block < W.heap.size) → ∀ sp : Nat → Bool, (∀ x ∈ ps, sp x.block = true) → DataW.TrodAll enc P W' 0 sp true ts vs ds ps
  | [], _, _, _, _, h, _, _, _ => by
    obtain ⟨rfl, rfl, rfl⟩ := trodAll_nil h
    exact trodAll_mk0
  | t :: ts, _, _, _, hr, h, hlt, sp, hsp => by
    obtain ⟨v, vs1, d, ds1, a, b, rfl, rfl, rfl, h1, h2⟩ := trodAll_cons h
    simp only [List.all_cons, Bool.and_eq_true, decide_eq_true_eq] at hr
    obtain ⟨⟨hr1, hr2⟩, hr3⟩ := hr
    refine ⟨a, b, ?_, trodAll_below hl hb hr3 h2 (fun x hx => hlt x (List.mem_append.2 (.inr hx))) sp (fun x hx => hsp x (List.mem_append.2 (.inr hx))), rfl⟩
    exact WideElems.Trod_stays hl hr1 hr2 h1 (fun x hx => hb.same (hlt x (List.mem_append.2 (.inl hx)))) (fun x hx => hsp x (List.mem_append.2 (.inl hx)))
theorem post_of_below (hl : laidOutB P = true) {f : Func} {s : ChangeSpec} {apart fresh handsOn again : Bool} {W W' : World} {args : Array Value} {ds gs : List (DataW H)} {before : List MemPlace}
    (hW : DataW.Whole enc P f.params.toList s.vars apart W args.toList ds gs before) (hb : Go.RowKit.Below W.heap.size W W')
    (hps : (f.params.toList.all fun t => P.readableRec t && decide (t < P.types.size)) = true) (hvs : s.vars = [])
    {tb : TypeId} (hrt : f.resultTypes = #[tb]) (htb : P.underlying tb = some .bool)
    (hs : s.fn H (ds ++ gs) = { results := [.lit (.bool true)], args := ds }) :
    s.post enc P f apart fresh handsOn again W args (.bool true) W' := by
  have hres : ∀ (b : Nat) (sp : Nat → Bool) (hd : Bool), DataW.TrodAll enc P W' b sp hd f.resultTypes.toList ((Value.bool true).resultList f.resultTypes.size) (s.fn H (ds ++ gs)).results [] := by
    intro b sp hd
    rw [hs, hrt]
    exact trodAll_cons_mk (shut_bool htb _) trodAll_mk0
  have hlt := hW.lt
  obtain ⟨p, q, hA, hV, hpq, hz, hn⟩ := id hW
  rw [hvs] at hV
  obtain ⟨rfl, rfl⟩ := trodVars_none hV
  simp only [List.append_nil] at hpq
  subst hpq
  have hargs : ∀ sp : Nat → Bool, (∀ x ∈ before, sp x.block = true) → DataW.TrodAll enc P W' 0 sp true f.params.toList args.toList (s.fn H (ds ++ [])).args before := by
    intro sp hsp
    rw [hs]
    exact trodAll_below hl hb hps hA hlt sp hsp
  have hvars : ∀ sp : Nat → Bool, DataW.TrodVars enc P W' sp s.vars (s.fn H (ds ++ [])).vars [] := by
    intro sp
    rw [hs, hvs]
    rfl
  have hold : ∀ x ∈ before, (fun b => decide (b < W.heap.size)) x.block = true := fun x hx => by simpa using hlt x hx
  refine ⟨ds, [], before, [], before, [], hW, hres _ _ _, hargs _ hold, hvars _, World.keptBut_mono (fun p hp => ⟨hp, Or.inr (by simpa using hp)⟩) (hb.frame (· ∈ before)), fun _ => ?_⟩
  refine ⟨ok_one hrt rfl (okWide_bool_mk htb _), _, _, ([] ++ before) ++ [], ⟨[] ++ before, [], trodAll_append (hargs _ (fun _ _ => rfl)) (hres _ _ _), hvars _, rfl, ?_, ?_⟩, ?_⟩
  · intro b off hp
    have hp' : MemPlace.cell b off ∈ before := by simpa using hp
    rw [hb.frozen (hlt _ hp')]
    exact hz b off hp'
  · intro ha
    simpa using hn ha
  · intro x hx _
    simpa using hx
theorem law_contract {S : AStat} (hS : StatOk S) (hP : S.P = P) (hl : laidOutB P = true) {fid : FuncId} {f : Func} {s : ChangeSpec} {apart fresh handsOn again : Bool} {W : World} {args : Array Value} {ds gs : List (DataW H)} {before : List MemPlace}
    (hW : DataW.Whole enc P f.params.toList s.vars apart W args.toList ds gs before)
    (hps : (f.params.toList.all fun t => P.readableRec t && decide (t < P.types.size)) = true) (hvs : s.vars = [])
    {tb : TypeId} (hrt : f.resultTypes = #[tb]) (htb : P.underlying tb = some .bool)
    (hs : s.fn H (ds ++ gs) = { results := [.lit (.bool true)], args := ds })
    {θ : List (Nat × Nat)} (hG : GlobOk S (cx0 W θ)) {av : List AVal} (hv : Vs (cx0 W θ) av args.toList) {n : Nat} {H' : Heap} (h : runA S n 0 fid av [] = some (.bool true, H')) :
    Calls P fid args W fun e W' => ∃ v, e = .returned v ∧ s.post enc P f apart fresh handsOn again W args v W' := by
  subst hP
  refine (law_calls hS hG hv h).mono fun e W' ⟨he, hb⟩ => ?_
  subst he
  exact ⟨_, rfl, post_of_below hl hW hb hps hvs hrt htb hs⟩
end
end Go.Am

/- More fuel does not turn what the idealised run has come to; how runs are put together. Generic: over any program. -/
namespace Go.Am
def CLe (a b : CallF) : Prop := ∀ lo f av H r, a lo f av H = some r → b lo f av H = some r
def ELe (a b : ExecF) : Prop := ∀ lo c ρ H r, a lo c ρ H = some r → b lo c ρ H = some r
theorem effA_mono {S : AStat} {a b : CallF} (h : CLe a b) {lo : Nat} {ρ : List AVal} {H : Heap} {o : Op} {r : AVal × Heap} (e : effA S a lo ρ H o = some r) : effA S b lo ρ H o = some r := by
  unfold effA at e ⊢
  split at e
  all_goals first
    | exact e
    | (split at e <;> first | exact h _ _ _ _ _ e | (split at e <;> first | exact h _ _ _ _ _ e | exact e | cases e) | cases e)
    | cases e
theorem opA_mono {S : AStat} {a b : CallF} (h : CLe a b) {lo : Nat} {ρ : List AVal} {H : Heap} {o : Oper} {r : AVal × Heap} (e : opA S a lo ρ H o = some r) : opA S b lo ρ H o = some r := by
  unfold opA at e ⊢
  split
  · simp_all
  · split
    · simp_all
    · simp_all
      exact effA_mono h e
theorem opsA_mono {S : AStat} {a b : CallF} (h : CLe a b) {lo : Nat} {ops : List Oper} : ∀ {os : List Oper} {ρ : List AVal} {H : Heap} {r : List AVal × Heap}, opsA S a lo ops os ρ H = some r → opsA S b lo ops os ρ H = some r
  | [], _, _, _, e => e
  | o :: os, ρ, H, r, e => by
    unfold opsA at e ⊢
    split
    · simp_all
    · simp_all
      exact opsA_mono h e
    · rename_i hg
      simp only [hg] at e
      cases ho : opA S a lo ρ H o with
      | none => simp [ho] at e
      | some v =>
        rw [opA_mono h ho]
        simp only [ho] at e
        exact opsA_mono h e
theorem drawGo_mono {S : AStat} {a b : CallF} (h : CLe a b) {lo n0 : Nat} {ops : Array Oper} {B : List Nat} : ∀ {os : List Oper} {k : Nat} {ρ : List AVal} {H : Heap} {r : DrawOut}, drawGo S a lo n0 ops B os k ρ H = some r → drawGo S b lo n0 ops B os k ρ H = some r
  | [], _, _, _, _, e => e
  | o :: os, k, ρ, H, r, e => by
    unfold drawGo at e ⊢
    split
    · simp_all
    · rename_i hg
      simp only [hg] at e
      exact drawGo_mono h e
    · rename_i hg
      simp only [hg] at e
      split
      · rename_i hn
        simp only [hn, if_true] at e
        split
        · simp_all
        · rename_i hq
          simp only [hq] at e
          split
          · rename_i hh
            simp only [hh] at e
            exact drawGo_mono h e
          · rename_i hh
            split at e
            · rename_i hh'
              exact (hh hh').elim
            · cases e
      · rename_i hn
        simp only [hn, if_false, Bool.false_eq_true] at e
        split
        · rename_i he
          simp only [he, if_true] at e
          cases ho : effA S a lo ρ (hide H (hidden ops B n0 k)) o.op with
          | none => simp [ho] at e
          | some v =>
            rw [effA_mono h ho]
            simp only [ho] at e ⊢
            split
            · rename_i hl
              simp only [hl, if_true] at e
              cases hd : drawGo S a lo n0 ops B os (k + 1) (putA ρ o.dst v.1) (unhide H v.2 (hidden ops B n0 k)) with
              | none => simp [hd] at e
              | some q =>
                rw [drawGo_mono h hd]
                simp only [hd] at e ⊢
                exact e
            · rename_i hl
              simp [hl] at e
        · rename_i he
          simp only [he, if_false, Bool.false_eq_true] at e
          split
          · simp_all
          · rename_i v hq
            simp only [hq] at e
            cases hd : drawGo S a lo n0 ops B os (k + 1) (putA ρ o.dst v) H with
            | none => simp [hd] at e
            | some q =>
              rw [drawGo_mono h hd]
              simp only [hd] at e ⊢
              exact e
theorem drawA_mono {S : AStat} {a b : CallF} (h : CLe a b) {lo : Nat} {ops : Array Oper} {ρ : List AVal} {H : Heap} {r : List AVal × Heap} (e : drawA S a lo ops ρ H = some r) : drawA S b lo ops ρ H = some r := by
  unfold drawA at e ⊢
  simp only at e ⊢
  split
  · rename_i hc
    simp only [hc, if_true] at e
    cases hd : drawGo S a lo H.length ops (befs ops.toList []) ops.toList 0 ρ (if ops.any (fun o => isNewB o.op) then H ++ List.replicate ops.size none else H) with
    | none => rw [hd] at e; cases e
    | some q =>
      rw [drawGo_mono h hd]
      rw [hd] at e
      exact e
  · rename_i hc
    rw [if_neg hc] at e
    cases e
theorem callA_mono {S : AStat} {a b : ExecF} (h : ELe a b) : CLe (callA S a) (callA S b) := by
  intro lo f av H r e
  unfold callA at e ⊢
  split
  · simp_all
  · rename_i hk
    simp only [hk] at e
    split
    · simp_all
    · rename_i fn hf
      simp only [hf] at e
      split
      · simp_all
      · rename_i body hb
        simp only [hb] at e
        split at e
        · cases e
        · cases e
        · rename_i x ρ H' hne hr
          rw [h _ _ _ _ _ hr]
          cases x with
          | exit i => exact (hne i rfl).elim
          | _ => exact e
theorem stepA_mono {S : AStat} {a b : ExecF} (h : ELe a b) : ELe (stepA S a) (stepA S b) := by
  intro lo c ρ H r e
  unfold stepA at e ⊢
  split
  · exact e
  · exact e
  · exact e
  · exact e
  · rename_i p q
    simp only at e
    split at e
    · rename_i ρ' H' h1
      rw [h _ _ _ _ _ h1]
      exact h _ _ _ _ _ e
    · rename_i hne
      rw [h _ _ _ _ _ e]
      split
      · rename_i h2
        simp only [Option.some.injEq] at h2
        subst h2
        exact (hne _ _ e).elim
      · rfl
  · rename_i x p q
    simp only at e
    cases hb : evalA S ρ x with
    | bool t => cases t <;> (simp only [hb] at e ⊢; exact h _ _ _ _ _ e)
    | _ => simp [hb] at e
  · rename_i id p
    simp only at e
    split at e
    · rename_i h1
      rw [h _ _ _ _ _ h1]
      exact e
    · rename_i hne
      rw [h _ _ _ _ _ e]
      split
      · rename_i h2
        simp only [Option.some.injEq] at h2
        subst h2
        exact (hne _ _ _ e).elim
      · rfl
  · rename_i p
    simp only at e
    split at e
    · rename_i ρ' H' h1
      rw [h _ _ _ _ _ h1]
      exact h _ _ _ _ _ e
    · rename_i hne
      rw [h _ _ _ _ _ e]
      split
      · rename_i h2
        simp only [Option.some.injEq] at h2
        subst h2
        exact (hne _ _ e).elim
      · rfl
  · rename_i id ops draw
    simp only at e
    split
    · rename_i hd
      simp only [hd, if_true] at e
      rw [Option.map_eq_some_iff] at e ⊢
      obtain ⟨q, h1, h2⟩ := e
      exact ⟨q, drawA_mono (callA_mono h) h1, h2⟩
    · rename_i hd
      simp only [hd, if_false, Bool.false_eq_true] at e
      rw [Option.map_eq_some_iff] at e ⊢
      obtain ⟨q, h1, h2⟩ := e
      exact ⟨q, opsA_mono (callA_mono h) h1, h2⟩
  · simp_all
theorem execA_succ {S : AStat} : ∀ n, ELe (execA S n) (execA S (n + 1))
  | 0 => fun _ _ _ _ _ e => by cases e
  | n + 1 => stepA_mono (execA_succ n)
theorem execA_mono {S : AStat} {n m : Nat} (h : n ≤ m) : ELe (execA S n) (execA S m) := by
  induction h with
  | refl => exact fun _ _ _ _ _ e => e
  | step _ ih => exact fun _ _ _ _ _ e => execA_succ _ _ _ _ _ _ (ih _ _ _ _ _ e)
def Runs (S : AStat) (lo : Nat) (c : Code) (ρ : List AVal) (H : Heap) (r : AExit × List AVal × Heap) : Prop := ∃ n, execA S n lo c ρ H = some r
def CallRuns (S : AStat) (lo : Nat) (f : FuncId) (av : List AVal) (H : Heap) (r : AVal × Heap) : Prop := ∃ n, runA S n lo f av H = some r
theorem Runs.seq {S : AStat} {lo : Nat} {a b : Code} {ρ ρ' : List AVal} {H H' : Heap} {r : AExit × List AVal × Heap} (h : Runs S lo a ρ H (.normal, ρ', H')) (k : Runs S lo b ρ' H' r) : Runs S lo (.seq a b) ρ H r := by
  obtain ⟨n, h⟩ := h
  obtain ⟨m, k⟩ := k
  refine ⟨max n m + 1, ?_⟩
  show stepA S (execA S (max n m)) lo (.seq a b) ρ H = some r
  simp only [stepA]
  rw [execA_mono (Nat.le_max_left n m) _ _ _ _ _ h]
  exact execA_mono (Nat.le_max_right n m) _ _ _ _ _ k
theorem Runs.seq_out {S : AStat} {lo : Nat} {a b : Code} {ρ ρ' : List AVal} {H H' : Heap} {x : AExit} (hx : x ≠ .normal) (h : Runs S lo a ρ H (x, ρ', H')) : Runs S lo (.seq a b) ρ H (x, ρ', H') := by
  obtain ⟨n, h⟩ := h
  refine ⟨n + 1, ?_⟩
  show stepA S (execA S n) lo (.seq a b) ρ H = some _
  simp only [stepA]
  rw [h]
  cases x with
  | normal => exact (hx rfl).elim
  | _ => rfl
theorem Runs.cond {S : AStat} {lo : Nat} {x : Operand} {a b : Code} {ρ : List AVal} {H : Heap} {r : AExit × List AVal × Heap} {t : Bool} (hx : evalA S ρ x = .bool t) (h : Runs S lo (if t then a else b) ρ H r) : Runs S lo (.cond x a b) ρ H r := by
  obtain ⟨n, h⟩ := h
  refine ⟨n + 1, ?_⟩
  show stepA S (execA S n) lo (.cond x a b) ρ H = some _
  simp only [stepA, hx]
  cases t <;> exact h
theorem Runs.block {S : AStat} {lo : Nat} {id : Nat} {b : Code} {ρ ρ' : List AVal} {H H' : Heap} {x : AExit} (h : Runs S lo b ρ H (x, ρ', H')) : Runs S lo (.block id b) ρ H ((match x with | .exit i => if i = id then .normal else .exit i | x => x), ρ', H') := by
  obtain ⟨n, h⟩ := h
  refine ⟨n + 1, ?_⟩
  show stepA S (execA S n) lo (.block id b) ρ H = some _
  simp only [stepA, h]
  cases x with
  | exit i =>
    simp only
    split <;> rfl
  | _ => rfl
theorem Runs.loop_next {S : AStat} {lo : Nat} {b : Code} {ρ ρ' : List AVal} {H H' : Heap} {r : AExit × List AVal × Heap} (h : Runs S lo b ρ H (.normal, ρ', H')) (k : Runs S lo (.loop b) ρ' H' r) : Runs S lo (.loop b) ρ H r := by
  obtain ⟨n, h⟩ := h
  obtain ⟨m, k⟩ := k
  refine ⟨max n m + 1, ?_⟩
  show stepA S (execA S (max n m)) lo (.loop b) ρ H = some r
  simp only [stepA]
  rw [execA_mono (Nat.le_max_left n m) _ _ _ _ _ h]
  exact execA_mono (Nat.le_max_right n m) _ _ _ _ _ k
theorem Runs.loop_out {S : AStat} {lo : Nat} {b : Code} {ρ ρ' : List AVal} {H H' : Heap} {x : AExit} (hx : x ≠ .normal) (h : Runs S lo b ρ H (x, ρ', H')) : Runs S lo (.loop b) ρ H (x, ρ', H') := by
  obtain ⟨n, h⟩ := h
  refine ⟨n + 1, ?_⟩
  show stepA S (execA S n) lo (.loop b) ρ H = some _
  simp only [stepA]
  rw [h]
  cases x with
  | normal => exact (hx rfl).elim
  | _ => rfl
theorem CallRuns.of_body {S : AStat} {lo : Nat} {f : FuncId} {fn : Func} {body : Code} (hf : S.P.funcs[f]? = some fn) (hb : fn.body = some body) (hk : S.hook f = none) {av : List AVal} {H : Heap} {x : AExit} {ρ : List AVal} {H' : Heap}
    (h : Runs S ((S.pol f).lo lo H) body (av ++ List.replicate (fn.ntmps - av.length) undefA) H (x, ρ, H')) (hx : ∀ i, x ≠ .exit i)
    {vs : List AVal} (hr : resultsA S ρ H' fn.results.toList = some vs) {r : AVal × Heap} (hfin : finish (S.pol f) H (tupled vs) H' = some r) : CallRuns S lo f av H r := by
  obtain ⟨n, h⟩ := h
  refine ⟨n, ?_⟩
  show callA S (execA S n) lo f av H = some r
  simp only [callA, hk, hf, hb]
  cases hp : S.pol f <;> simp only [hp] at h hfin ⊢ <;> rw [h] <;> cases x <;> first | exact (hx _ rfl).elim | simp only [hr, hfin]
def flat : Code → List Code → List Code
  | .seq a b, k => flat a (flat b k)
  | c, k => c :: k
def execL (S : AStat) (N lo : Nat) : List Code → List AVal → Heap → Option (AExit × List AVal × Heap)
  | [], ρ, H => some (.normal, ρ, H)
  | c :: l, ρ, H => match execA S N lo c ρ H with
    | some (.normal, ρ', H') => execL S N lo l ρ' H'
    | r => r
def RunsL (S : AStat) (lo : Nat) : List Code → List AVal → Heap → AExit × List AVal × Heap → Prop
  | [], ρ, H, r => r = (.normal, ρ, H)
  | c :: l, ρ, H, r => (∃ ρ' H', Runs S lo c ρ H (.normal, ρ', H') ∧ RunsL S lo l ρ' H' r) ∨ (r.1 ≠ .normal ∧ Runs S lo c ρ H r)
theorem RunsL.of_exec {S : AStat} {N lo : Nat} : ∀ {l : List Code} {ρ : List AVal} {H : Heap} {r : AExit × List AVal × Heap}, execL S N lo l ρ H = some r → RunsL S lo l ρ H r
  | [], _, _, _, h => by
    simp only [execL, Option.some.injEq] at h
    exact h.symm
  | c :: l, ρ, H, r, h => by
    simp only [execL] at h
    split at h
    · rename_i h1
      exact .inl ⟨_, _, ⟨N, h1⟩, RunsL.of_exec h⟩
    · rename_i hne
      refine .inr ⟨?_, ⟨N, h⟩⟩
      intro e
      obtain ⟨x, ρ', H'⟩ := r
      cases e
      exact hne _ _ h
theorem RunsL.flat {S : AStat} {lo : Nat} : ∀ {c : Code} {k : List Code} {ρ : List AVal} {H : Heap} {r : AExit × List AVal × Heap}, RunsL S lo (flat c k) ρ H r → RunsL S lo (c :: k) ρ H r := by
  intro c
  induction c with
  | seq a b iha ihb =>
    intro k ρ H r h
    have h := iha h
    rcases h with ⟨ρ1, H1, h1, h2⟩ | ⟨h1, h2⟩
    · rcases ihb h2 with ⟨ρ2, H2, h3, h4⟩ | ⟨h3, h4⟩
      · exact .inl ⟨ρ2, H2, h1.seq h3, h4⟩
      · exact .inr ⟨h3, h1.seq h4⟩
    · obtain ⟨x, ρ', H'⟩ := r
      exact .inr ⟨h1, Runs.seq_out h1 h2⟩
  | _ => intro k ρ H r h; exact h
theorem Runs.of_flat {S : AStat} {lo : Nat} {c : Code} {ρ : List AVal} {H : Heap} {r : AExit × List AVal × Heap} (h : RunsL S lo (Am.flat c []) ρ H r) : Runs S lo c ρ H r := by
  rcases RunsL.flat h with ⟨ρ', H', h1, h2⟩ | ⟨_, h2⟩
  · cases h2
    exact h1
  · exact h2
def headsA (S : AStat) (lo N : Nat) : Nat → List Code → List AVal → Heap → Option (List Code × List AVal × Heap)
  | 0, l, ρ, H => some (l, ρ, H)
  | k + 1, c :: l, ρ, H => match execA S N lo c ρ H with
    | some (.normal, ρ', H') => headsA S lo N k l ρ' H'
    | _ => none
  | _ + 1, [], _, _ => none
theorem RunsL.heads {S : AStat} {lo N : Nat} : ∀ {k : Nat} {l : List Code} {ρ : List AVal} {H : Heap} {l' : List Code} {ρ' : List AVal} {H' : Heap} {r : AExit × List AVal × Heap},
    headsA S lo N k l ρ H = some (l', ρ', H') → RunsL S lo l' ρ' H' r → RunsL S lo l ρ H r
  | 0, l, ρ, H, l', ρ', H', r, h, k => by
    simp only [headsA, Option.some.injEq, Prod.mk.injEq] at h
    obtain ⟨rfl, rfl, rfl⟩ := h
    exact k
  | j + 1, [], ρ, H, l', ρ', H', r, h, k => by cases h
  | j + 1, c :: l, ρ, H, l', ρ', H', r, h, k => by
    simp only [headsA] at h
    split at h
    · rename_i h1
      exact .inl ⟨_, _, ⟨N, h1⟩, RunsL.heads h k⟩
    · cases h
def tailA (S : AStat) (N : Nat) (f : FuncId) (fn : Func) (lo : Nat) (H0 : Heap) (l : List Code) (ρ : List AVal) (H : Heap) : Option (AVal × Heap) :=
  match execL S N ((S.pol f).lo lo H0) l ρ H with
  | none => none
  | some (.exit _, _, _) => none
  | some (_, ρ', H') =>
    match resultsA S ρ' H' fn.results.toList with
    | none => none
    | some vs => finish (S.pol f) H0 (tupled vs) H'
def headA (S : AStat) (N k : Nat) (f : FuncId) (fn : Func) (body : Code) (lo : Nat) (av : List AVal) (H : Heap) : Option (List Code × List AVal × Heap) :=
  headsA S ((S.pol f).lo lo H) N k (flat body []) (av ++ List.replicate (fn.ntmps - av.length) undefA) H
theorem CallRuns.of_tail {S : AStat} {lo : Nat} {f : FuncId} {fn : Func} {body : Code} (hf : S.P.funcs[f]? = some fn) (hb : fn.body = some body) (hk : S.hook f = none) {av : List AVal} {H : Heap} {N k M : Nat}
    {l' : List Code} {ρ' : List AVal} {H' : Heap} (h : headA S N k f fn body lo av H = some (l', ρ', H')) {r : AVal × Heap} (ht : tailA S M f fn lo H l' ρ' H' = some r) : CallRuns S lo f av H r := by
  unfold tailA at ht
  split at ht
  · cases ht
  · cases ht
  · rename_i x ρ1 H1 hne h1
    split at ht
    · cases ht
    · rename_i vs hvs
      exact CallRuns.of_body hf hb hk (Runs.of_flat (RunsL.heads h (RunsL.of_exec h1))) (fun i e => hne i e) hvs ht
theorem set_self {ρ : List AVal} {i : Nat} {v : AVal} (h : ρ[i]? = some v) : ρ.set i v = ρ := by
  apply List.ext_getElem?
  intro j
  rw [List.getElem?_set]
  split
  · rename_i hij
    subst hij
    rw [h]
    split
    · rfl
    · rename_i hl
      rw [List.getElem?_eq_none (by omega)] at h
      cases h
  · rfl
theorem CallRuns.cut {S : AStat} {lo : Nat} {f : FuncId} {fn : Func} {body : Code} (hf : S.P.funcs[f]? = some fn) (hb : fn.body = some body) (hk : S.hook f = none) {av : List AVal} {H : Heap} (N k M i : Nat) {v w : AVal}
    (hi : ((headA S N k f fn body lo av H).bind fun s => s.2.1[i]?) = some v) (hvw : v = w) {a : AVal}
    (ht : ((headA S N k f fn body lo av H).bind fun s => (tailA S M f fn lo H s.1 (s.2.1.set i w) s.2.2).map (·.1)) = some a) : ∃ H', CallRuns S lo f av H (a, H') := by
  subst hvw
  cases hh : headA S N k f fn body lo av H with
  | none => simp [hh] at hi
  | some s =>
    obtain ⟨l', ρ', H'⟩ := s
    simp only [hh, Option.bind_some] at hi ht
    rw [set_self hi, Option.map_eq_some_iff] at ht
    obtain ⟨⟨a', H1⟩, h1, h2⟩ := ht
    cases h2
    exact ⟨H1, CallRuns.of_tail hf hb hk hh h1⟩
end Go.Am

/- Rules for code over idealised states, seen from a function's entry: between pieces a state may be weakened; a loop by an invariant and a measure. Generic: over any program. -/
namespace Go.Am
open Go.RowKit
structure Ent where
  lo : Nat
  c : Cx
  H : Heap
def Keeps (S : AStat) (E : Ent) (ρ : List AVal) (H : Heap) (tmps : List Value) (w : World) : Prop :=
  ∃ c, c.w = w ∧ Rel c H ∧ GlobOk S c ∧ Tr E.c E.H c H ∧ Low E.lo E.c E.H c H ∧ Vs c ρ tmps
abbrev OutQ := AExit → List AVal → Heap → Prop
def outPost (S : AStat) (E : Ent) (Q : OutQ) (e : Exit) (a : Act) (w : World) : Prop :=
  a.defers = [] ∧ ∃ x ρ H, e = x.toExit ∧ Q x ρ H ∧ Keeps S E ρ H a.tmps.toList w
def Wp (S : AStat) (E : Ent) (c : Code) (ρ : List AVal) (H : Heap) (Q : OutQ) : Prop :=
  ∀ a w, Keeps S E ρ H a.tmps.toList w → a.defers = [] → c.wp S.P (outPost S E Q) a w
def Weak (S : AStat) (E : Ent) (ρ : List AVal) (H : Heap) (ρ1 : List AVal) (H1 : Heap) : Prop :=
  ∀ tmps w, Keeps S E ρ H tmps w → Keeps S E ρ1 H1 tmps w
theorem Weak.refl {S : AStat} {E : Ent} {ρ : List AVal} {H : Heap} : Weak S E ρ H ρ H := fun _ _ h => h
theorem Weak.trans {S : AStat} {E : Ent} {ρ ρ1 ρ2 : List AVal} {H H1 H2 : Heap} (h : Weak S E ρ H ρ1 H1) (k : Weak S E ρ1 H1 ρ2 H2) : Weak S E ρ H ρ2 H2 := fun _ _ x => k _ _ (h _ _ x)
theorem Wp.weak {S : AStat} {E : Ent} {c : Code} {ρ ρ1 : List AVal} {H H1 : Heap} {Q : OutQ} (h : Weak S E ρ H ρ1 H1) (k : Wp S E c ρ1 H1 Q) : Wp S E c ρ H Q := fun a w x y => k a w (h _ _ x) y
theorem Wp.mono {S : AStat} {E : Ent} {c : Code} {ρ : List AVal} {H : Heap} {Q Q' : OutQ} (h : Wp S E c ρ H Q) (hq : ∀ x ρ' H', Q x ρ' H' → ∃ ρ1 H1, Weak S E ρ' H' ρ1 H1 ∧ Q' x ρ1 H1) : Wp S E c ρ H Q' := by
  intro a w hk hd
  refine wp_mono (h a w hk hd) ?_
  rintro e a' w' ⟨h1, x, ρ', H', h2, h3, h4⟩
  obtain ⟨ρ1, H1, h5, h6⟩ := hq x ρ' H' h3
  exact ⟨h1, x, ρ1, H1, h2, h6, h5 _ _ h4⟩
theorem Wp.run {S : AStat} (hS : StatOk S) {E : Ent} {c : Code} {ρ ρ' : List AVal} {H H' : Heap} {x : AExit} {Q : OutQ} (h : Runs S E.lo c ρ H (x, ρ', H')) (hq : Q x ρ' H') : Wp S E c ρ H Q := by
  obtain ⟨n, h⟩ := h
  rintro a w ⟨cx, rfl, hR, hG, hT, hL, hv⟩ hd
  refine wp_mono (execA_ok hS n _ _ _ _ _ _ _ h cx a hR hG hv hd).1 ?_
  rintro e a' w' ⟨he, hd', c', rfl, h1, h2, h3, h4⟩
  exact ⟨hd', x, ρ', H', he, hq, c', rfl, h1, hG.ext h2.ext, hT.trans h2, hL.trans hT.ext h3, h4⟩
theorem Wp.seq {S : AStat} {E : Ent} {p q : Code} {ρ : List AVal} {H : Heap} {Q : OutQ} (h : Wp S E p ρ H fun x ρ' H' => (x = .normal ∧ Wp S E q ρ' H' Q) ∨ (x ≠ .normal ∧ Q x ρ' H')) : Wp S E (.seq p q) ρ H Q := by
  intro a w hk hd
  refine wp_seq (wp_mono (h a w hk hd) ?_)
  rintro e a' w' ⟨h1, x, ρ', H', rfl, h3, h4⟩
  rcases h3 with ⟨rfl, h3⟩ | ⟨h2, h3⟩
  · exact h3 a' w' h4 h1
  · cases x with
    | normal => exact (h2 rfl).elim
    | exit i => exact ⟨h1, .exit i, ρ', H', rfl, h3, h4⟩
    | ret => exact ⟨h1, .ret, ρ', H', rfl, h3, h4⟩
theorem Wp.cond {S : AStat} {E : Ent} {x : Operand} {p q : Code} {ρ : List AVal} {H : Heap} {Q : OutQ} {t : Bool} (hx : evalA S ρ x = .bool t) (h : Wp S E (if t then p else q) ρ H Q) : Wp S E (.cond x p q) ρ H Q := by
  rintro a w hk hd
  obtain ⟨cx, rfl, hR, hG, hT, hL, hv⟩ := id hk
  have hc := evalA_V (a := a) hG hv x
  rw [hx] at hc
  simp only [V] at hc
  cases t with
  | true => exact wp_cond_true hc (h a _ hk hd)
  | false => exact wp_cond_false hc (h a _ hk hd)
theorem Wp.block {S : AStat} {E : Ent} {id : Nat} {p : Code} {ρ : List AVal} {H : Heap} {Q : OutQ} (h : Wp S E p ρ H fun x ρ' H' => Q (match x with | .exit i => if i = id then .normal else .exit i | x => x) ρ' H') : Wp S E (.block id p) ρ H Q := by
  intro a w hk hd
  refine wp_block (wp_mono (h a w hk hd) ?_)
  rintro e a' w' ⟨h1, x, ρ', H', rfl, h3, h4⟩
  cases x with
  | normal => exact ⟨h1, .normal, ρ', H', rfl, h3, h4⟩
  | ret => exact ⟨h1, .ret, ρ', H', rfl, h3, h4⟩
  | exit i =>
    simp only at h3
    by_cases hi : i = id
    · rw [if_pos hi] at h3
      simp only [AExit.toExit, Exit.inBlock]
      rw [if_pos hi]
      exact ⟨h1, .normal, ρ', H', rfl, h3, h4⟩
    · rw [if_neg hi] at h3
      simp only [AExit.toExit, Exit.inBlock]
      rw [if_neg hi]
      exact ⟨h1, .exit i, ρ', H', rfl, h3, h4⟩
theorem Wp.loop {S : AStat} {E : Ent} {p : Code} {Q : OutQ} {σ : Type} (I : σ → Prop) (ρs : σ → List AVal) (Hs : σ → Heap) (m : σ → Nat)
    (h : ∀ s, I s → Wp S E p (ρs s) (Hs s) fun x ρ' H' => (x = .normal ∧ ∃ s', I s' ∧ m s' < m s ∧ Weak S E ρ' H' (ρs s') (Hs s')) ∨ (x ≠ .normal ∧ Q x ρ' H'))
    {s : σ} (hs : I s) : Wp S E (.loop p) (ρs s) (Hs s) Q := by
  intro a w hk hd
  have key : ∀ n s, I s → m s < n → ∀ a w, Keeps S E (ρs s) (Hs s) a.tmps.toList w → a.defers = [] → Code.rounds S.P p (outPost S E Q) n a w := by
    intro n
    induction n with
    | zero => intro s _ hm; omega
    | succ n ih =>
      intro s hs hm a w hk hd
      refine wp_mono (h s hs a w hk hd) ?_
      rintro e a' w' ⟨h1, x, ρ', H', rfl, h3, h4⟩
      rcases h3 with ⟨rfl, s', hs', hm', hw⟩ | ⟨h2, h3⟩
      · exact ih s' hs' (by omega) a' w' (hw _ _ h4) h1
      · cases x with
        | normal => exact (h2 rfl).elim
        | exit i => exact ⟨h1, .exit i, ρ', H', rfl, h3, h4⟩
        | ret => exact ⟨h1, .ret, ρ', H', rfl, h3, h4⟩
  exact wp_loop_rounds (m s + 1) (key _ s hs (by omega) a w hk hd)
def WpL (S : AStat) (E : Ent) : List Code → List AVal → Heap → OutQ → Prop
  | [], ρ, H, Q => ∃ ρ1 H1, Weak S E ρ H ρ1 H1 ∧ Q .normal ρ1 H1
  | c :: l, ρ, H, Q => Wp S E c ρ H fun x ρ' H' => (x = .normal ∧ WpL S E l ρ' H' Q) ∨ (x ≠ .normal ∧ Q x ρ' H')
theorem WpL.flat {S : AStat} {E : Ent} : ∀ {c : Code} {k : List Code} {ρ : List AVal} {H : Heap} {Q : OutQ}, WpL S E (Am.flat c k) ρ H Q → WpL S E (c :: k) ρ H Q := by
  intro c
  induction c with
  | seq p q ihp ihq =>
    intro k ρ H Q h
    have h1 := ihp h
    refine Wp.seq (Wp.mono h1 ?_)
    rintro x ρ' H' (⟨rfl, h2⟩ | ⟨h2, h3⟩)
    · exact ⟨ρ', H', Weak.refl, .inl ⟨rfl, ihq h2⟩⟩
    · exact ⟨ρ', H', Weak.refl, .inr ⟨h2, .inr ⟨h2, h3⟩⟩⟩
  | _ => intro k ρ H Q h; exact h
theorem Wp.of_flat {S : AStat} {E : Ent} {c : Code} {ρ : List AVal} {H : Heap} {Q : OutQ} (h : WpL S E (Am.flat c []) ρ H Q) : Wp S E c ρ H Q := by
  refine Wp.mono (WpL.flat h) ?_
  rintro x ρ' H' (⟨rfl, ρ1, H1, h1, h2⟩ | ⟨_, h3⟩)
  · exact ⟨ρ1, H1, h1, h2⟩
  · exact ⟨ρ', H', Weak.refl, h3⟩
theorem WpL.weak {S : AStat} {E : Ent} {l : List Code} {ρ ρ1 : List AVal} {H H1 : Heap} {Q : OutQ} (h : Weak S E ρ H ρ1 H1) (k : WpL S E l ρ1 H1 Q) : WpL S E l ρ H Q := by
  cases l with
  | nil =>
    obtain ⟨ρ2, H2, h1, h2⟩ := k
    exact ⟨ρ2, H2, h.trans h1, h2⟩
  | cons c l => exact Wp.weak h k
theorem WpL.heads {S : AStat} (hS : StatOk S) {E : Ent} {N : Nat} : ∀ {k : Nat} {l : List Code} {ρ : List AVal} {H : Heap} {l' : List Code} {ρ' : List AVal} {H' : Heap} {Q : OutQ},
    headsA S E.lo N k l ρ H = some (l', ρ', H') → WpL S E l' ρ' H' Q → WpL S E l ρ H Q
  | 0, l, ρ, H, l', ρ', H', Q, h, k => by
    simp only [headsA, Option.some.injEq, Prod.mk.injEq] at h
    obtain ⟨rfl, rfl, rfl⟩ := h
    exact k
  | j + 1, [], ρ, H, l', ρ', H', Q, h, k => by cases h
  | j + 1, c :: l, ρ, H, l', ρ', H', Q, h, k => by
    simp only [headsA] at h
    split at h
    · rename_i h1
      exact Wp.run hS ⟨N, h1⟩ (.inl ⟨rfl, WpL.heads hS h k⟩)
    · cases h
theorem contract_of_wp {S : AStat} {f : FuncId} {fn : Func} {body : Code} (hf : S.P.funcs[f]? = some fn) (hb : fn.body = some body)
    {lo : Nat} {c : Cx} {H : Heap} (hR : Rel c H) (hG : GlobOk S c) {av : List AVal} {vs : List Value} (hv : Vs c av vs) {r : AVal} {H1 : Heap}
    (h : Wp S ⟨lo, c, H⟩ body (av ++ List.replicate (fn.ntmps - av.length) undefA) H fun x ρ H' => (∀ i, x ≠ .exit i) ∧ H' = H1 ∧ ∃ rs, resultsA S ρ H1 fn.results.toList = some rs ∧ tupled rs = r) :
    (∃ fn, S.P.funcs[f]? = some fn ∧ fn.body.isSome = true) ∧ Calls S.P f vs.toArray c.w (CallPost lo c H r H1) := by
  refine ⟨⟨fn, hf, by simp [hb]⟩, ?_⟩
  refine calls_of_wp hf hb ?_
  have hlen := Vs_length hv
  have hargs : Vs c (av ++ List.replicate (fn.ntmps - av.length) undefA) (vs.toArray ++ Array.replicate (fn.ntmps - vs.toArray.size) undef).toList := by
    have : (vs.toArray ++ Array.replicate (fn.ntmps - vs.toArray.size) undef).toList = vs ++ List.replicate (fn.ntmps - av.length) undef := by
      simp [hlen]
    rw [this]
    exact Vs_append hv (Vs_replicate (undef_V c) _)
  refine wp_mono (h { tmps := vs.toArray ++ Array.replicate (fn.ntmps - vs.toArray.size) undef, defers := [] } c.w ⟨c, rfl, hR, hG, Tr.refl _ _, Low.refl _ _ _, hargs⟩ rfl) ?_
  rintro e a' w' ⟨hd, x, ρ', H', rfl, ⟨hx, rfl, rs, hrs, rfl⟩, c', rfl, h1, _, h2, h3, h4⟩
  obtain ⟨u, h5, h6⟩ := results_sim h1 h4 fn hrs
  cases x with
  | exit i => exact (hx i rfl).elim
  | normal => exact ⟨hd, u, h5, u, c', rfl, rfl, h1, h2, h3, h6⟩
  | ret => exact ⟨hd, u, h5, u, c', rfl, rfl, h1, h2, h3, h6⟩
end Go.Am

/- What the laid variables give: a row of sentinels at so many places, a type's handle; memory that is made and not looked at. Generic: over any program. -/
namespace Go.Am
open Go.RowKit Go.ChangeShapes Go.WideShapes
theorem Rel.waste {c : Cx} {H : Heap} (hR : Rel c H) (o : Obj) (lo : Nat) : Rel { c with w := c.w.alloc o } H ∧ Tr c H { c with w := c.w.alloc o } H ∧ Low lo c H { c with w := c.w.alloc o } H := by
  have keep : ∀ B, B < c.w.heap.size → (c.w.alloc o).heap[B]? = c.w.heap[B]? := fun B hB => Below.heap_alloc _ _ _ hB
  have h := hR.step (c' := { c with w := c.w.alloc o }) (H' := H) (fun _ => False) (fun _ h => h.elim) (fun _ _ h => h) rfl rfl (by simp) (fun B hB _ => keep B hB) (fun _ _ _ h => shape_alloc _ _ _ _ _ h) rfl rfl rfl
    (fun _ b blk hb => by obtain ⟨B, base, h1, _⟩ := hR.blk b blk hb; exact .inl ⟨hb, B, base, h1, fun h => h⟩) hR.inj hR.fresh
  refine ⟨h.1, h.2, ⟨fun x y _ hx => ⟨hx, fun B base hi => ?_⟩, fun _ _ h => h, Nat.le_refl _⟩⟩
  obtain ⟨B', base', h1, _, h2, _⟩ := hR.blk x y hx
  rw [hi] at h1
  simp only [Option.some.injEq, Prod.mk.injEq] at h1
  obtain ⟨rfl, rfl⟩ := h1
  exact keep _ h2
theorem Wrote.setCell {w : World} {B o : Nat} {u v : Value} (h : w.cell? ⟨B, o, none⟩ = some u) : Wrote w (w.setCell ⟨B, o, none⟩ v) B o [v] where
  size := by simp
  keep := fun X hX => Below.heap_setCell _ _ _ _ hX
  shape := fun X => shape_setCell _ _ _ _
  frozen := fun a => by simp
  os := rfl
  tape := rfl
  output := rfl
  new := by
    intro j x hj
    cases j with
    | zero =>
      simp at hj
      subst hj
      exact World.cell?_setCell_same _ _ _ h
    | succ j => simp at hj
  old := by
    intro off hoff
    refine World.cell?_setCell_other _ _ _ _ ?_
    simp at hoff
    intro e
    simp only [Addr.mk.injEq] at e
    omega
def sentD (nm : String) (text : List UInt8) : DataW Unit := .iface nm (.ptr (.agg [.lit (.string text)]))
theorem Rel.three {c : Cx} {H : Heap} (hR : Rel c H) (o1 o2 o3 : Obj) (lo : Nat) {w' : World} (hw : w' = ((c.w.alloc o1).alloc o2).alloc o3) :
    ∃ c', c'.w = w' ∧ Rel c' H ∧ Tr c H c' H ∧ Low lo c H c' H := by
  obtain ⟨r1, t1, l1⟩ := hR.waste o1 lo
  obtain ⟨r2, t2, l2⟩ := r1.waste o2 lo
  obtain ⟨r3, t3, l3⟩ := r2.waste o3 lo
  subst hw
  exact ⟨_, rfl, r3, (t1.trans t2).trans t3, (l1.trans t1.ext l2).trans (t1.trans t2).ext l3⟩
end Go.Am

/- What a laid array of numbers gives. Generic: over any program. -/
namespace Go.Am
set_option linter.unusedVariables false
open Go.RowKit Go.ChangeShapes Go.WideShapes
theorem ints_Vs {c : Cx} {k : IntKind} : ∀ (ns : List Int), Vs c (ns.map (AVal.int k)) (ns.map (Value.int k))
  | [] => by simp only [List.map_nil, Vs]
  | n :: ns => by simp only [List.map_cons, Vs]; exact ⟨_, _, rfl, by simp only [V], ints_Vs ns⟩
theorem laid_data {P : Program} {W : World} {nm : String} {ns : List Int} {k : IntKind} {g : Nat} {t e : TypeId} {len : Nat} {rest : List (String × DataW Unit)} {ps : List MemPlace}
    (hl : DataW.LaidVars P W ((nm, .agg (ns.map fun m => .lit (.int k m))) :: rest) ps) (hg : P.globalNamed nm = some g) (ht : (P.globals[g]?).map (·.type) = some t) (hu : P.underlying t = some (.array len e)) (he : P.underlying e = some (.int k)) (hc : P.cellsOf e = 1) (hct : P.cellsOf t = len) (h0 : 0 < len) :
    (∃ p q, DataW.LaidVars P W rest q ∧ ps = p ++ q) ∧ ∀ θ, V (cx0 W θ) (.ipt (ns.map (.int k))) (.pointer (some ⟨g, 0, none⟩)) := by
  obtain ⟨g0, t0, cs, f0, p0, q0, hg0, ht0, hv, hd, hq, e0⟩ := hl
  obtain rfl := Option.some.inj (hg.symm.trans hg0)
  obtain rfl := Option.some.inj (ht.symm.trans ht0)
  refine ⟨⟨_, q0, hq, e0⟩, ?_⟩
  obtain ⟨xs, m, rfl, hx, hlen, hxl, hall⟩ := DataW.trod_array hu hd
  simp only [Prod.mk.injEq, DataW.agg.injEq] at hx
  obtain ⟨hx, _⟩ := hx
  have hns : ns.length = len := by
    have := congrArg List.length hx
    simp only [List.length_map] at this
    omega
  have hcs : cs.toList = ns.map (Value.int k) := by
    refine List.ext_getElem? fun i => ?_
    rcases Nat.lt_or_ge i len with hi | hi
    · have h1 := hall i hi
      rw [hc] at h1
      have hxi : xs[i]? = some xs[i] := List.getElem?_eq_getElem (by omega)
      rw [hxi] at h1
      obtain ⟨n, h2, h3, _⟩ := DataW.trod_int he h1
      have h4 : cs.toList[i]? = some (.int k n) := by
        have h5 := congrArg (fun l => l[0]?) h2
        simp only [Nat.mul_one, List.getElem?_take, List.getElem?_drop] at h5
        simpa using h5
      have h6 := congrArg (fun l => l[i]?) hx
      simp only [List.getElem?_map, hxi, Option.map_some] at h6
      rw [h3] at h6
      obtain ⟨n', h7, h8⟩ := Option.map_eq_some_iff.1 h6
      simp only [DataW.lit.injEq, Lit.int.injEq, true_and] at h8
      subst h8
      rw [h4, List.getElem?_map, h7]
      rfl
    · rw [List.getElem?_eq_none (by omega), List.getElem?_eq_none (by simp only [List.length_map]; omega)]
  have hcell : ∀ i, W.cell? ⟨g, i, none⟩ = (ns.map (Value.int k))[i]? := fun i => by
    rw [World.var?_cell hg hv i, ← hcs, Array.getElem?_toList]
  have lt : g < W.heap.size := by
    rcases Nat.lt_or_ge g W.heap.size with hh | hh
    · exact hh
    · have := hcell 0
      rw [List.getElem?_eq_getElem (by simp only [List.length_map]; omega)] at this
      simp [World.cell?, Array.getElem?_eq_none hh] at this
  intro θ
  simp only [V]
  refine ⟨g, 0, ns.map (Value.int k), rfl, lt, fun j x hj => ?_, ?_⟩
  · show W.cell? ⟨g, 0 + j, none⟩ = some x
    rw [Nat.zero_add, hcell j]
    exact hj
  · exact ints_Vs ns
theorem laid_cells {P : Program} {W : World} {nm : String} {ns : List Int} {k : IntKind} {g : Nat} {t e : TypeId} {len : Nat} {rest : List (String × DataW Unit)} {ps : List MemPlace}
    (hl : DataW.LaidVars P W ((nm, .agg (ns.map fun m => .lit (.int k m))) :: rest) ps) (hg : P.globalNamed nm = some g) (ht : (P.globals[g]?).map (·.type) = some t) (hu : P.underlying t = some (.array len e)) (he : P.underlying e = some (.int k)) (hc : P.cellsOf e = 1) (hct : P.cellsOf t = len) (h0 : 0 < len) :
    W.heap[g]?.bind (fun o => match o with | .cells cs _ _ => some cs | _ => none) = some (ns.map (Value.int k)).toArray := by
  obtain ⟨g0, t0, cs, f0, p0, q0, hg0, ht0, hv, hd, hq, e0⟩ := hl
  obtain rfl := Option.some.inj (hg.symm.trans hg0)
  obtain rfl := Option.some.inj (ht.symm.trans ht0)
  obtain ⟨xs, m, rfl, hx, hlen, hxl, hall⟩ := DataW.trod_array hu hd
  simp only [Prod.mk.injEq, DataW.agg.injEq] at hx
  obtain ⟨hx, _⟩ := hx
  have hns : ns.length = len := by
    have := congrArg List.length hx
    simp only [List.length_map] at this
    omega
  have hcs : cs.toList = ns.map (Value.int k) := by
    refine List.ext_getElem? fun i => ?_
    rcases Nat.lt_or_ge i len with hi | hi
    · have h1 := hall i hi
      rw [hc] at h1
      have hxi : xs[i]? = some xs[i] := List.getElem?_eq_getElem (by omega)
      rw [hxi] at h1
      obtain ⟨n, h2, h3, _⟩ := DataW.trod_int he h1
      have h4 : cs.toList[i]? = some (.int k n) := by
        have h5 := congrArg (fun l => l[0]?) h2
        simp only [Nat.mul_one, List.getElem?_take, List.getElem?_drop] at h5
        simpa using h5
      have h6 := congrArg (fun l => l[i]?) hx
      simp only [List.getElem?_map, hxi, Option.map_some] at h6
      rw [h3] at h6
      obtain ⟨n', h7, h8⟩ := Option.map_eq_some_iff.1 h6
      simp only [DataW.lit.injEq, Lit.int.injEq, true_and] at h8
      subst h8
      rw [h4, List.getElem?_map, h7]
      rfl
    · rw [List.getElem?_eq_none (by omega), List.getElem?_eq_none (by simp only [List.length_map]; omega)]
  have hv' : W.heap[g]?.bind (fun o => match o with | .cells cs _ _ => some cs | _ => none) = some cs := by
    simp only [World.var?, hg, Option.bind_some] at hv
    cases ho : W.heap[g]? with
    | none => rw [ho] at hv; cases hv
    | some o =>
      rw [ho] at hv
      cases o <;> first
        | (cases hv; done)
        | exact hv
  rw [hv', ← hcs]
theorem laid_tab {P : Program} {W : World} {nm : String} {ns : List Int} {k : IntKind} {g : Nat} {t e : TypeId} {len : Nat} {rest : List (String × DataW Unit)} {ps : List MemPlace}
    (hl : DataW.LaidVars P W ((nm, .agg (ns.map fun m => .lit (.int k m))) :: rest) ps) (hg : P.globalNamed nm = some g) (ht : (P.globals[g]?).map (·.type) = some t) (hu : P.underlying t = some (.array len e)) (he : P.underlying e = some (.int k)) (hc : P.cellsOf e = 1) (hct : P.cellsOf t = len) (h0 : 0 < len) (θ : List (Nat × Nat)) :
    (cx0 W θ).I g ∧ ∃ t fr, W.heap[g]? = some (.cells (ns.map (Value.int k)).toArray t fr) := by
  have h := laid_cells hl hg ht hu he hc hct h0
  cases ho : W.heap[g]? with
  | none => rw [ho] at h; cases h
  | some o =>
    rw [ho] at h
    have hlt : g < W.heap.size := by
      rcases Nat.lt_or_ge g W.heap.size with hh | hh
      · exact hh
      · rw [Array.getElem?_eq_none hh] at ho; cases ho
    cases o <;> first | (cases h; done) | (simp only [Option.bind_some, Option.some.injEq] at h; subst h; exact ⟨hlt, _, _, rfl⟩)
end Go.Am

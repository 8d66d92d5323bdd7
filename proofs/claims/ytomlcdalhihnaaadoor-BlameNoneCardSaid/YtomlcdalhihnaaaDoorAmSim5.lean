/- That the model's operations keep to the idealised ones: what makes a block. Generic: over any program. -/
import Derived.Test.YtomlcdalhihnaaaDoorAmSim4
namespace Go.Am
open Go.RowKit
variable {P : Program}

theorem range_cells (z : Array Value) (hz : 0 < z.size) : ∀ n, ((List.range (n * z.size)).map fun i => z[i % z.size]!) = (List.replicate n z.toList).flatten
  | 0 => by simp
  | n + 1 => by
    have h0 : ((List.range z.size).map fun i => z[i % z.size]!) = z.toList := by
      apply List.ext_getElem?
      intro i
      by_cases hi : i < z.size
      · simp [hi, Nat.mod_eq_of_lt hi]
      · simp [hi]
    rw [Nat.succ_mul, Nat.add_comm, List.range_add, List.map_append, h0, List.map_map, List.replicate_succ, List.flatten_cons, ← range_cells z hz n]
    congr 1
    apply List.map_congr_left
    intro i _
    simp

theorem range_zero_map (f : Nat → Value) : (Array.range 0).map f = #[] := by
  apply Array.ext'
  simp

theorem newCells {c : Cx} {b : Nat} {arr : Array Value} {t : TypeId} {cs : List AVal} (hE : Ext c (c.put b c.w.heap.size 0 (c.w.alloc (.cells arr t)))) (hv : Vs c cs arr.toList) :
    BlkRel (c.put b c.w.heap.size 0 (c.w.alloc (.cells arr t))) c.w.heap.size 0 (.cells cs) ∧ Room (c.w.alloc (.cells arr t)) c.w.heap.size arr.size := by
  have hs : (c.w.alloc (.cells arr t)).shape? c.w.heap.size = some (t, arr.size) := by
    have : (c.w.alloc (.cells arr t)).heap[c.w.heap.size]? = some (.cells arr t) := by
      show (c.w.heap.push _)[c.w.heap.size]? = _
      simp
    simp only [World.shape?]
    rw [this]
  have hl := Vs_length hv
  simp only [Array.length_toList] at hl
  refine ⟨⟨fun off _ => World.frozen?_alloc_new _ _ _ _, ⟨t, arr.size, hs, by omega⟩, arr.toList, fun j v hj => ?_, Vs_ext hE _ _ hv⟩, ⟨t, arr.size, hs, Nat.le_refl _⟩⟩
  simp only [Cx.put, Nat.zero_add, World.cell?_alloc_new]
  simpa using hj

structure Makes (S : AStat) (c : Cx) (a : Act) (o : Oper) (blk : ABlk) (mk : Nat → AVal) : Prop where
  run : ∃ obj u, (execOp a.eval o).run S.P c.w = .ok (.value u) (c.w.alloc obj) ∧
    ∀ b, Ext c (c.put b c.w.heap.size 0 (c.w.alloc obj)) → BlkRel (c.put b c.w.heap.size 0 (c.w.alloc obj)) c.w.heap.size 0 blk ∧ V (c.put b c.w.heap.size 0 (c.w.alloc obj)) (mk b) u

theorem put_ι (c : Cx) (b B base : Nat) (w : World) : (c.put b B base w).ι b = some (B, base) := by simp [Cx.put]

theorem newA_sim {S : AStat} {c : Cx} {ρ : List AVal} {a : Act} (o : Oper) (hev : EvOn S c ρ a o.op.operands) {blk : ABlk} {mk : Nat → AVal} (h : newA S ρ o.op = some (blk, mk)) :
    Makes S c a o blk mk := by
  obtain ⟨dst, op, type, pos, after, guard⟩ := o
  simp only at h hev
  unfold newA at h
  split at h
  · rename_i t
    unfold allocA at h
    split at h
    · rename_i z hz
      split at h
      · rename_i hone
        simp only [Option.some.injEq, Prod.mk.injEq] at h
        obtain ⟨rfl, rfl⟩ := h
        obtain ⟨v, h1, h2⟩ := run_zeroValue (c := c) hz c.w
        refine ⟨.cells v.cells t, .pointer (some ⟨c.w.heap.size, 0, none⟩), ?_, fun b hE => ?_⟩
        · simp [execOp, Instr.alloc, h1, newVar, newRow]
        · exact ⟨(newCells hE (cells_Vs h2 hone)).1, by simp only [V]; exact ⟨_, 0, put_ι _ _ _ _ _, rfl⟩⟩
      · cases h
    · cases h
  · rename_i t x
    unfold boxA at h
    split at h
    · rename_i hone
      simp only [Option.some.injEq, Prod.mk.injEq] at h
      obtain ⟨rfl, rfl⟩ := h
      refine ⟨.cells (a.eval x).cells t, .pointer (some ⟨c.w.heap.size, 0, none⟩), ?_, fun b hE => ?_⟩
      · simp [execOp, Instr.box, newVar, newRow]
      · exact ⟨(newCells hE (cells_Vs (hev x (by simp [Op.operands])) hone)).1, by simp only [V]; exact ⟨_, 0, put_ι _ _ _ _ _, rfl⟩⟩
    · cases h
  · rename_i t len parts
    unfold buildSliceA at h
    split at h
    · rename_i e hd
      split at h
      · cases h
      · rename_i z hz
        split at h
        · rename_i hc
          obtain ⟨hzl, hs0, hone, hbig⟩ := hc
          rw [Option.map_eq_some_iff] at h
          obtain ⟨cs, hf, h⟩ := h
          simp only [Prod.mk.injEq] at h
          obtain ⟨rfl, rfl⟩ := h
          obtain ⟨v, h1, h2⟩ := run_zeroValue (c := c) hz c.w
          have hcv := cells_Vs h2 hone
          have hvl := Vs_length hcv
          simp only [Array.length_toList] at hvl
          have hinfo : (S.P.info? e).isSome = true := by
            unfold zeroA at hz
            cases hi : S.P.info? e with
            | none => simp [hi] at hz
            | some i => rfl
          have hrep : ∀ n, Vs c ((List.replicate n z.cells).flatten) ((List.replicate n v.cells.toList).flatten) := by
            intro n
            induction n with
            | zero => simp [Vs]
            | succ n ih => simp only [List.replicate_succ, List.flatten_cons]; exact Vs_append hcv ih
          have hvs : v.cells.size = szOf S.P e := by omega
          have hrow : ((Array.range (len * szOf S.P e)).map (v.cells[· % v.cells.size]!)).toList = (List.replicate len v.cells.toList).flatten := by
            rw [← range_cells v.cells (by omega) len, hvs]
            simp
          obtain ⟨vs', h3, h4⟩ := fillA_sim (c := c) (place' := fun i => some (i * szOf S.P e, szOf S.P e)) (fun _ => rfl) (vs := (Array.range (len * szOf S.P e)).map (v.cells[· % v.cells.size]!)) hf (by rw [hrow]; exact hrep len) (Ps_map (c := c) (S := S) (ρ := ρ) (a := a) parts.toList (fun p hp => hev p.2 (by simp [Op.operands]; exact ⟨p.1, by simpa using hp⟩)))
          have hlen' : vs'.size = len * szOf S.P e := by
            have := Vs_length h4
            simp only [Array.length_toList] at this
            rw [← this]
            have fl : ∀ {parts : List (Nat × AVal)} {cs cs' : List AVal}, fillA (fun i => some (i * szOf S.P e, szOf S.P e)) cs parts = some cs' → cs'.length = cs.length := by
              intro parts
              induction parts with
              | nil => intro cs cs' h; simp only [fillA, Option.some.injEq] at h; rw [h]
              | cons p parts ih =>
                intro cs cs' h
                obtain ⟨i, x⟩ := p
                simp only [fillA] at h
                split at h
                · cases h
                · rename_i hc
                  rw [ih h]
                  simp only [not_or] at hc
                  simp
                  omega
            rw [fl hf]
            simp [hzl]
          refine ⟨.cells vs' e, .slice (some ⟨c.w.heap.size, 0, none⟩) len len, ?_, fun b hE => ?_⟩
          · have hnot : ¬ (len * szOf S.P e > 2 ^ 24) := by
              have : (2 : Nat) ^ 24 = 16777216 := by decide
              omega
            simp only [execOp, Sem.run_bind]
            have : (Instr.buildSlice t len (parts.map fun p => (p.1, a.eval p.2))).run S.P c.w = .ok (.slice (some ⟨c.w.heap.size, 0, none⟩) len len) (c.w.alloc (.cells vs' e)) := by
              unfold Instr.buildSlice
              simp only [Sem.run_bind, run_underlying hd, Result.andThen_ok, run_sizeOf hinfo]
              rw [if_neg hnot]
              by_cases hz0 : len * szOf S.P e = 0
              · have hl0 : len = 0 := by
                  rcases Nat.mul_eq_zero.1 hz0 with h | h
                  · exact h
                  · exact absurd h hs0
                subst hl0
                simp only [Nat.zero_mul] at h3 ⊢
                have h3' : Instr.fill (fun i => some (i * szOf S.P e, szOf S.P e)) #[] ((parts.map fun p => (p.1, a.eval p.2)).toList) = some vs' := by
                  rw [range_zero_map] at h3
                  simpa using h3
                rw [if_pos (by simp)]
                simp only [Sem.run_pure, Sem.run_bind, Result.andThen_ok, range_zero_map]
                rw [h3']
                simp [newRow]
              · have h3' : Instr.fill (fun i => some (i * szOf S.P e, szOf S.P e)) ((Array.range (len * szOf S.P e)).map (v.cells[· % v.cells.size]!)) ((parts.map fun p => (p.1, a.eval p.2)).toList) = some vs' := by
                  simpa using h3
                rw [if_neg hz0]
                simp only [Sem.run_bind, h1, Result.andThen_ok, Sem.run_pure]
                rw [h3']
                simp [newRow]
            rw [this]
            rfl
          · obtain ⟨h5, h6⟩ := newCells (t := e) hE h4
            refine ⟨h5, ?_⟩
            simp only [V]
            refine ⟨_, 0, len, 0, put_ι _ _ _ _ _, rfl, fun _ => rfl, Nat.le_refl _, Nat.le_refl _, (fun h => by cases h), ?_⟩
            simpa [Cx.put, hlen'] using h6
        · cases h
    · cases h
  · rename_i t l cp
    unfold makeSliceA at h
    split at h
    · rename_i e ln cn hd hl hcp
      split at h
      · rename_i z hz
        split at h
        · rename_i hcd
          obtain ⟨hlc, hbytes, hmax, hzl, hs0, hone⟩ := hcd
          simp only [Option.some.injEq, Prod.mk.injEq] at h
          obtain ⟨rfl, rfl⟩ := h
          obtain ⟨k1, n1, e1, h01, rfl⟩ := idxA_sim hl (hev l (by simp [Op.operands]))
          obtain ⟨k2, n2, e2, h02, rfl⟩ := idxA_sim hcp (hev cp (by simp [Op.operands]))
          obtain ⟨v, h1, h2⟩ := run_zeroValue (c := c) hz c.w
          have hcv := cells_Vs h2 hone
          have hvl := Vs_length hcv
          simp only [Array.length_toList] at hvl
          have hvs : v.cells.size = szOf S.P e := by omega
          have hinfo : (S.P.info? e).isSome = true := by
            unfold zeroA at hz
            cases hi : S.P.info? e with
            | none => simp [hi] at hz
            | some i => rfl
          obtain ⟨i, hi⟩ := Option.isSome_iff_exists.1 hinfo
          have hby : S.P.bytesOf e = i.bytes := by simp [Program.bytesOf, hi]
          rw [hby] at hbytes
          have hrow : ((Array.range (n2.toNat * szOf S.P e)).map (v.cells[· % v.cells.size]!)).toList = (List.replicate n2.toNat v.cells.toList).flatten := by
            rw [← range_cells v.cells (by omega) n2.toNat, hvs]
            simp
          have hrep : ∀ n, Vs c ((List.replicate n z.cells).flatten) ((List.replicate n v.cells.toList).flatten) := by
            intro n
            induction n with
            | zero => simp [Vs]
            | succ n ih => simp only [List.replicate_succ, List.flatten_cons]; exact Vs_append hcv ih
          have w1 : IntKind.i64.wrap n1 = n1 := Go.IntWalk.i64_in n1 (by omega)
          have w2 : IntKind.i64.wrap n2 = n2 := Go.IntWalk.i64_in n2 (by omega)
          refine ⟨.cells ((Array.range (n2.toNat * szOf S.P e)).map (v.cells[· % v.cells.size]!)) e, .slice (some ⟨c.w.heap.size, 0, none⟩) n1.toNat n2.toNat, ?_, fun b hE => ?_⟩
          · have hnot : ¬ ((i.bytes : Int) * n2 > 2 ^ 48) := by
              have : ((n2.toNat * i.bytes : Nat) : Int) = (i.bytes : Int) * n2 := by
                rw [Int.natCast_mul, Int.toNat_of_nonneg h02, Int.mul_comm]
              have h48 : (2 : Int) ^ 48 = 281474976710656 := by decide
              rw [h48, ← this]
              omega
            have run : (Instr.makeSlice t (a.eval l) (a.eval cp)).run S.P c.w = .ok (.slice (some ⟨c.w.heap.size, 0, none⟩) n1.toNat n2.toNat) (c.w.alloc (.cells ((Array.range (n2.toNat * szOf S.P e)).map (v.cells[· % v.cells.size]!)) e)) := by
              rw [e1, e2]
              unfold Instr.makeSlice
              simp only [Sem.run_bind, run_underlying hd, Result.andThen_ok, asInt, asIntOf, Sem.run_pure, run_typeInfo hi, w1, w2]
              have hcond : ((decide (n2 < 0) || decide ((i.bytes : Int) * n2 > 2 ^ 48)) || decide (n1 < 0) || decide (n1 > n2)) = false := by
                have : ¬ (281474976710656 < (i.bytes : Int) * n2) := by
                  have h48 : (2 : Int) ^ 48 = 281474976710656 := by decide
                  omega
                simp [this]
                omega
              rw [if_neg (by rw [hcond]; simp)]
              simp only [Sem.run_bind, run_askRoom, Result.andThen_ok, run_sizeOf hinfo]
              by_cases hz0 : n2.toNat * szOf S.P e = 0
              · rw [if_pos hz0]
                simp only [hz0, Sem.run_pure, Sem.run_bind, Result.andThen_ok, range_zero_map]
                simp [newRow]
              · rw [if_neg hz0]
                simp [h1, newRow]
            simp only [execOp, Sem.run_bind, run]
            rfl
          · obtain ⟨h5, h6⟩ := newCells (t := e) hE (by rw [hrow]; exact hrep n2.toNat)
            refine ⟨h5, ?_⟩
            simp only [V]
            refine ⟨_, 0, n2.toNat, 0, put_ι _ _ _ _ _, rfl, fun _ => rfl, by omega, Nat.le_refl _, fun _ => rfl, ?_⟩
            simpa [Cx.put] using h6
        · cases h
      · cases h
    · cases h
  · rename_i t
    simp only [Option.some.injEq, Prod.mk.injEq] at h
    obtain ⟨rfl, rfl⟩ := h
    refine ⟨.map #[] 0, .map (some c.w.heap.size), ?_, fun b hE => ⟨⟨rfl, #[], 0, by show (c.w.heap.push _)[c.w.heap.size]? = _; simp, by simp [Es]⟩, by simp only [V]; exact ⟨_, put_ι _ _ _ _ _, rfl⟩⟩⟩
    simp [execOp, Instr.makeMap]
  · cases h

end Go.Am

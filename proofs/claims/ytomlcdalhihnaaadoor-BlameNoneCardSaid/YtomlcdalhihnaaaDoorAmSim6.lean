/- That the model's operations keep to the idealised ones: stores and append. Generic: over any program. -/
import Derived.Test.YtomlcdalhihnaaaDoorAmSim5
namespace Go.Am
open Go.RowKit
variable {P : Program}

structure Wrote (w w' : World) (B o : Nat) (vs : List Value) : Prop where
  size : w'.heap.size = w.heap.size
  keep : ∀ X, X ≠ B → w'.heap[X]? = w.heap[X]?
  shape : ∀ X, w'.shape? X = w.shape? X
  frozen : ∀ a, w'.frozen? a = w.frozen? a
  os : w'.os = w.os
  tape : w'.tape = w.tape
  output : w'.output = w.output
  new : At w' B o vs
  old : ∀ off, off < o ∨ o + vs.length ≤ off → w'.cell? ⟨B, off, none⟩ = w.cell? ⟨B, off, none⟩

theorem Wrote.nil (w : World) (B o : Nat) : Wrote w w B o [] :=
  ⟨rfl, fun _ _ => rfl, fun _ => rfl, fun _ => rfl, rfl, rfl, rfl, (fun j v hj => by simp at hj), fun _ _ => rfl⟩

theorem shape_setCell (w : World) (a : Addr) (v : Value) (X : Nat) : (w.setCell a v).shape? X = w.shape? X := by
  simp only [World.shape?, World.setCell, Array.getElem?_modify]
  by_cases h : a.block = X
  · rw [if_pos h]
    cases w.heap[X]? with
    | none => rfl
    | some o =>
      cases o with
      | cells cs e fz => cases hs : a.spot <;> simp
      | _ => rfl
  · rw [if_neg h]

theorem cell_of_room {w : World} {B n off : Nat} (h : Room w B n) (ho : off < n) : ∃ u, w.cell? ⟨B, off, none⟩ = some u := by
  obtain ⟨t, m, hs, hn⟩ := h
  unfold World.shape? at hs
  split at hs
  · rename_i cs e fz hh
    simp only [Option.some.injEq, Prod.mk.injEq] at hs
    obtain ⟨_, rfl⟩ := hs
    exact ⟨cs[off], by simp [World.cell?, hh, show off < cs.size by omega]⟩
  · cases hs

theorem run_stores (B : Nat) : ∀ (vs : List Value) (o i : Nat) (w : World), Room w B (o + i + vs.length) → (∀ off, Room w B (off + 1) → w.frozen? ⟨B, off, none⟩ = false) → (∀ v ∈ vs, v.oneCell' = true) →
    ∃ w', (storeCells ⟨B, o, none⟩ vs i).run P w = .ok () w' ∧ Wrote w w' B (o + i) vs
  | [], o, i, w, _, _, _ => ⟨w, rfl, Wrote.nil _ _ _⟩
  | v :: vs, o, i, w, hr, hf, hone => by
    simp only [List.length_cons] at hr
    obtain ⟨u, hu⟩ := cell_of_room hr (off := o + i) (by omega)
    have hfz := hf (o + i) (hr.mono (by omega))
    have hstore : (store ⟨B, o + i, none⟩ v).run P w = .ok () (w.setCell ⟨B, o + i, none⟩ v) := by
      rw [run_store P w _ v .plain (hone v (List.mem_cons_self ..)), hu]
      simp [hfz]
    have hroom : ∀ n, Room w B n ↔ Room (w.setCell ⟨B, o + i, none⟩ v) B n := fun n => by simp only [Room, shape_setCell]
    obtain ⟨w', h1, h2⟩ := run_stores B vs o (i + 1) (w.setCell ⟨B, o + i, none⟩ v) ((hroom _).1 (hr.mono (by omega)))
      (fun off h => by rw [World.frozen?_setCell]; exact hf off ((hroom _).2 h)) (fun x hx => hone x (List.mem_cons_of_mem _ hx))
    refine ⟨w', ?_, ?_⟩
    · simp only [storeCells, Sem.run_bind, add_plain, hstore, Result.andThen_ok]
      exact h1
    · refine ⟨by rw [h2.size]; simp, fun X hX => by rw [h2.keep X hX]; exact Below.heap_setCell _ _ _ _ hX, fun X => by rw [h2.shape, shape_setCell], fun a => by rw [h2.frozen]; simp, h2.os, h2.tape, h2.output, ?_, ?_⟩
      · intro j x hj
        cases j with
        | zero =>
          simp only [List.getElem?_cons_zero, Option.some.injEq] at hj
          subst hj
          rw [Nat.add_zero, h2.old (o + i) (.inl (by omega))]
          exact World.cell?_setCell_same _ _ _ hu
        | succ j =>
          simp only [List.getElem?_cons_succ] at hj
          have := h2.new j x hj
          rw [show o + i + (j + 1) = o + (i + 1) + j by omega]
          exact this
      · intro off hoff
        simp only [List.length_cons] at hoff
        rw [h2.old off (by omega)]
        exact World.cell?_setCell_other _ _ _ _ (by intro e; simp only [Addr.mk.injEq] at e; omega)

theorem At_splice {w w' : World} {B base off : Nat} {vs new : List Value} (hw : Wrote w w' B (base + off) new) (ha : At w B base vs) (hle : off + new.length ≤ vs.length) :
    At w' B base (vs.take off ++ new ++ vs.drop (off + new.length)) := by
  intro j v hj
  rw [List.append_assoc] at hj
  rcases Nat.lt_or_ge j off with h1 | h1
  · rw [List.getElem?_append_left (by simp; omega), List.getElem?_take, if_pos h1] at hj
    rw [hw.old (base + j) (.inl (by omega))]
    exact ha j v hj
  · rw [List.getElem?_append_right (by simp; omega)] at hj
    have e : (vs.take off).length = off := by simp; omega
    rw [e] at hj
    rcases Nat.lt_or_ge (j - off) new.length with h2 | h2
    · rw [List.getElem?_append_left h2] at hj
      have := hw.new (j - off) v hj
      rw [show base + off + (j - off) = base + j by omega] at this
      exact this
    · rw [List.getElem?_append_right h2, List.getElem?_drop] at hj
      rw [show off + new.length + (j - off - new.length) = j by omega] at hj
      rw [hw.old (base + j) (.inr (by omega))]
      exact ha j v hj

theorem Wrote.room {w w' : World} {B o : Nat} {vs : List Value} (h : Wrote w w' B o vs) {X n : Nat} : Room w' X n ↔ Room w X n := by simp only [Room, h.shape]

/-- A block of cells, written in its middle. -/
theorem Rel.write {c : Cx} {H : Heap} (hR : Rel c H) {b B base off : Nat} {cs new : List AVal} {vn : List Value} (hb : H[b]? = some (some (.cells cs))) (hi : c.ι b = some (B, base)) {w' : World}
    (hw : Wrote c.w w' B (base + off) vn) (hv : Vs c new vn) (hle : off + new.length ≤ cs.length) :
    Rel { c with w := w' } (H.set b (some (.cells (splice cs off new)))) ∧ Tr c H { c with w := w' } (H.set b (some (.cells (splice cs off new)))) := by
  obtain ⟨B0, base0, h3, _, _, h6⟩ := hR.blk b _ hb
  rw [hi] at h3
  simp only [Option.some.injEq, Prod.mk.injEq] at h3
  obtain ⟨rfl, rfl⟩ := h3
  obtain ⟨hf, hroom, vs, ha, hvs⟩ := h6
  have hl := Vs_length hvs
  have hn := Vs_length hv
  refine hR.update hb hi w' hw.size hw.keep (fun X t n h => by rw [hw.shape]; exact h) hw.os hw.tape hw.output fun hE => ⟨?_, ?_, vs.take off ++ vn ++ vs.drop (off + vn.length), ?_, ?_⟩
  · intro o hr
    show w'.frozen? _ = false
    rw [hw.frozen]
    exact hf o (hw.room.1 hr)
  · refine hw.room.2 (hroom.mono ?_)
    simp [splice]
    omega
  · exact At_splice hw ha (by omega)
  · unfold splice
    rw [hn]
    exact Vs_append (Vs_append (Vs_take _ (Vs_ext hE _ _ hvs)) (Vs_ext hE _ _ hv)) (Vs_drop _ (Vs_ext hE _ _ hvs))

/-- One operation is done. -/
def Does (S : AStat) (lo : Nat) (c : Cx) (H : Heap) (a : Act) (o : Oper) (r : AVal) (H' : Heap) : Prop :=
  ∃ c' u, Rel c' H' ∧ Tr c H c' H' ∧ Low lo c H c' H' ∧ V c' r u ∧
    ((execOp a.eval o).run S.P c.w = .ok (.value u) c'.w ∨ ((execOp a.eval o).run S.P c.w = .ok .skip c'.w ∧ u = undef))

theorem storeA_sim {S : AStat} {c : Cx} {H : Heap} {ρ : List AVal} {a : Act} (hR : Rel c H) (o : Oper) (hev : EvOn S c ρ a o.op.operands) {lo : Nat} {t : TypeId} {x v : Operand} {H' : Heap}
    (ho : o.op = .store t x v) (h : storeA S.P lo t H (evalA S ρ x) (evalA S ρ v) = some H') : Does S lo c H a o undefA H' := by
  obtain ⟨dst, op, type, pos, after, guard⟩ := o
  simp only at ho
  subst ho
  unfold storeA at h
  split at h
  · rename_i b off ex
    split at h
    · rename_i cs hb
      split at h
      · rename_i hc
        obtain ⟨hlo, hsz, hinfo, hone, hle⟩ := hc
        simp only [Option.some.injEq] at h
        subst h
        have hx := hev x (by simp [Op.operands])
        rw [ex] at hx
        simp only [V] at hx
        obtain ⟨B, base, hi, e⟩ := hx
        obtain ⟨B0, base0, h3, _, _, hf, hroom, _⟩ := hR.blk b _ hb
        rw [hi] at h3
        simp only [Option.some.injEq, Prod.mk.injEq] at h3
        obtain ⟨rfl, rfl⟩ := h3
        have hcv := cells_Vs (hev v (by simp [Op.operands])) hone
        have hl := Vs_length hcv
        obtain ⟨w', h1, h2⟩ := run_stores (P := S.P) B (a.eval v).cells.toList (base + off) 0 c.w (hroom.mono (by omega)) hf (ones_of_Vs hcv hone)
        obtain ⟨h4, h5⟩ := hR.write hb hi h2 hcv (by omega)
        refine ⟨_, undef, h4, h5, hR.set_low hlo hb hi h2.keep (fun x y hx hxy => by rw [List.getElem?_set, if_neg (fun e => hx e.symm)]; exact hxy) (fun _ _ h => h) (by simp), by simp only [undefA, V]; exact ⟨[], rfl, by simp [Vs]⟩, .inr ⟨?_, rfl⟩⟩
        have hsz' : (a.eval v).cells.size = szOf S.P t := by
          simp only [Array.length_toList] at hl
          omega
        simp [execOp, Instr.storeAt, Instr.sureAddr, e, storeVar, run_sizeOf hinfo, hsz', h1]
      · cases h
    · cases h
  · cases h

end Go.Am

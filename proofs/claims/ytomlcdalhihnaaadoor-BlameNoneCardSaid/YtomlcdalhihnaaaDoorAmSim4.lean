/- That the model's operations keep to the idealised ones: building, lengths; the quiet ones together. Generic: over any program. -/
import Derived.Test.YtomlcdalhihnaaaDoorAmMap
import Derived.Stop.Asserts
import Derived.Laws.BytesString
namespace Go.Am
open Go.RowKit
variable {P : Program}

theorem foldl_put : ∀ (xs : List Value) (k off : Nat) (cells : Array Value), off + k + xs.length ≤ cells.size →
    ((xs.zipIdx k).foldl (fun cs (p : Value × Nat) => cs.setIfInBounds (off + p.2) p.1) cells).toList = cells.toList.take (off + k) ++ xs ++ cells.toList.drop (off + k + xs.length)
  | [], k, off, cells, _ => by simp
  | x :: xs, k, off, cells, h => by
    simp only [List.length_cons] at h
    simp only [List.zipIdx_cons, List.foldl_cons]
    rw [foldl_put xs (k + 1) off _ (by simp; omega)]
    rw [Array.toList_setIfInBounds, ← Nat.add_assoc]
    have hll : cells.toList.length = cells.size := Array.length_toList
    have hlt : off + k < cells.toList.length := by omega
    rw [List.take_succ_eq_append_getElem (by simpa using hlt)]
    rw [List.drop_set_of_lt (by omega)]
    have e : off + k + 1 + xs.length = off + k + (xs.length + 1) := by omega
    simp only [List.getElem_set_self, List.take_set_of_le (Nat.le_refl _), List.length_cons, List.append_assoc, List.cons_append, List.nil_append, e]

theorem zipIdx_foldl (v : Value) (off : Nat) (cells : Array Value) (h : off + v.cells.size ≤ cells.size) :
    (v.cells.zipIdx.foldl (fun cs (p : Value × Nat) => cs.setIfInBounds (off + p.2) p.1) cells).toList = cells.toList.take off ++ v.cells.toList ++ cells.toList.drop (off + v.cells.size) := by
  have := foldl_put v.cells.toList 0 off cells (by simpa using h)
  rw [← Array.foldl_toList, Array.toList_zipIdx]
  simpa using this

def Ps (c : Cx) : List (Nat × AVal) → List (Nat × Value) → Prop
  | [], vs => vs = []
  | (i, a) :: as, vs => ∃ v us, vs = (i, v) :: us ∧ V c a v ∧ Ps c as us

theorem fillA_sim {c : Cx} {place : Nat → Option (Nat × Nat)} {place' : Nat → Option (Nat × Nat)} (hp : ∀ i, place i = place' i) : ∀ {parts : List (Nat × AVal)} {parts' : List (Nat × Value)} {cs cs' : List AVal} {vs : Array Value},
    fillA place cs parts = some cs' → Vs c cs vs.toList → Ps c parts parts' → ∃ vs', Instr.fill place' vs parts' = some vs' ∧ Vs c cs' vs'.toList
  | [], _, cs, cs', vs, h, hv, hq => by
    simp only [Ps] at hq
    subst hq
    simp only [fillA, Option.some.injEq] at h
    subst h
    exact ⟨vs, rfl, hv⟩
  | (i, a) :: parts, _, cs, cs', vs, h, hv, hq => by
    simp only [Ps] at hq
    obtain ⟨v, us, rfl, hav, hq⟩ := hq
    simp only [fillA] at h
    split at h
    · cases h
    · rename_i off size hpl
      split at h
      · cases h
      · rename_i hc
        simp only [not_or, Bool.not_eq_true, Bool.not_eq_false'] at hc
        obtain ⟨h1, h2, h3⟩ := hc
        have h1 := Decidable.of_not_not h1
        have hcv := cells_Vs hav (by simpa using h3)
        have hl := Vs_length hcv
        have hl2 := Vs_length hv
        simp only [Array.length_toList] at hl hl2
        have hle : off + v.cells.size ≤ vs.size := by omega
        obtain ⟨vs', h4, h5⟩ := fillA_sim hp (vs := v.cells.zipIdx.foldl (fun cs (p : Value × Nat) => cs.setIfInBounds (off + p.2) p.1) vs) h (by
          rw [zipIdx_foldl v off vs hle]
          refine Vs_append (Vs_append (Vs_take _ hv) hcv) ?_
          rw [hl]
          exact Vs_drop _ hv) hq
        refine ⟨vs', ?_, h5⟩
        have hnc : ¬ ((decide (v.cells.size ≠ size) || decide (off + v.cells.size > vs.size)) = true) := by simp; omega
        rw [Instr.fill, ← hp, hpl]
        simp only
        rw [if_neg hnc]
        exact h4

/-- The operands read as they should. -/
def EvOn (S : AStat) (c : Cx) (ρ : List AVal) (a : Act) (xs : Array Operand) : Prop := ∀ x ∈ xs, V c (evalA S ρ x) (a.eval x)

theorem Ps_map {S : AStat} {c : Cx} {ρ : List AVal} {a : Act} : ∀ l : List (Nat × Operand), (∀ p ∈ l, V c (evalA S ρ p.2) (a.eval p.2)) → Ps c (l.map fun p => (p.1, evalA S ρ p.2)) (l.map fun p => (p.1, a.eval p.2))
  | [], _ => by simp [Ps]
  | (i, x) :: l, h => by
    simp only [List.map_cons, Ps]
    exact ⟨_, _, rfl, h (i, x) (List.mem_cons_self ..), Ps_map l fun p hp => h p (List.mem_cons_of_mem _ hp)⟩

theorem Vs_mapO {S : AStat} {c : Cx} {ρ : List AVal} {a : Act} : ∀ (l : List Operand), (∀ x ∈ l, V c (evalA S ρ x) (a.eval x)) → Vs c (l.map (evalA S ρ)) (l.map a.eval)
  | [], _ => by simp [Vs]
  | x :: l, h => by
    simp only [List.map_cons, Vs]
    exact ⟨_, _, rfl, h x (List.mem_cons_self ..), Vs_mapO l fun p hp => h p (List.mem_cons_of_mem _ hp)⟩

theorem run_places (fs : Array Field) (h : fs.all (fun f => (P.info? f.type).isSome) = true) (w : World) :
    (fs.mapM (fun f => Prod.mk f.offset <$> sizeOf f.type) : Sem (Array (Nat × Nat))).run P w = .ok (fs.map fun f => (f.offset, szOf P f.type)) w := by
  have key : ∀ l : List Field, l.all (fun f => (P.info? f.type).isSome) = true → (l.mapM (fun f => Prod.mk f.offset <$> sizeOf f.type) : Sem (List (Nat × Nat))).run P w = .ok (l.map fun f => (f.offset, szOf P f.type)) w := by
    intro l
    induction l with
    | nil => intro _; rfl
    | cons f l ih =>
      intro h
      simp only [List.all_cons, Bool.and_eq_true] at h
      simp [List.mapM_cons, run_sizeOf h.1, ih h.2]
  rw [Array.mapM_eq_mapM_toList]
  simp only [Sem.run_map, key fs.toList (by simpa using h), Result.andThen_ok]
  congr 1
  apply Array.ext'
  simp

theorem buildA_sim {c : Cx} {t : TypeId} {parts : List (Nat × AVal)} {parts' : Array (Nat × Value)} {r : AVal} (h : buildA P t parts = some r) (hp : Ps c parts parts'.toList) (w : World) :
    ∃ u, (Instr.build t parts').run P w = .ok u w ∧ V c r u := by
  unfold buildA at h
  split at h
  · cases h
  · rename_i z hz
    obtain ⟨zv, hz1, hz2⟩ := run_zeroValue (P := P) (c := c) hz w
    split at h
    · cases h
    · rename_i hone
      simp only [Bool.not_eq_true, Bool.not_eq_false'] at hone
      have hcz := cells_Vs hz2 (by simpa using hone)
      split at h
      · rename_i fs hd
        split at h
        · rename_i hall
          rw [Option.map_eq_some_iff] at h
          obtain ⟨cs, hf, rfl⟩ := h
          obtain ⟨vs', h1, h2⟩ := fillA_sim (place' := fun i => Option.map (fun f => (f.offset, szOf P f.type)) fs[i]?) (fun _ => rfl) hf hcz hp
          refine ⟨.agg vs', ?_, ?_⟩
          · simp [Instr.build, hz1, run_underlying hd, run_places fs hall, h1]
          · simp only [V]
            exact ⟨vs'.toList, rfl, h2⟩
        · cases h
      · rename_i n e hd
        split at h
        · rename_i hok
          rw [Option.map_eq_some_iff] at h
          obtain ⟨cs, hf, rfl⟩ := h
          obtain ⟨vs', h1, h2⟩ := fillA_sim (place' := fun i => some (i * szOf P e, szOf P e)) (fun _ => rfl) hf hcz hp
          refine ⟨.agg vs', ?_, ?_⟩
          · simp [Instr.build, hz1, run_underlying hd, run_sizeOf hok, h1]
          · simp only [V]
            exact ⟨vs'.toList, rfl, h2⟩
        · cases h
      · cases h

theorem run_getMap {r : Nat} {ms : Array MapEntry} {clock : Nat} {w : World} (h : w.heap[r]? = some (.map ms clock)) : (getObj r).run P w = .ok (.map ms clock) w := by
  simp [getObj, Sem.run, h]

theorem lenA_sim {c : Cx} {H : Heap} (hR : Rel c H) {t : TypeId} {x r : AVal} {v : Value} (h : lenA P t H x = some r) (hv : V c x v) (ts : Array TypeId) (ty : TypeId) (h0 : ts[0]? = some t) :
    ∃ u, (Builtin.len_ ts ty #[v]).run P c.w = .ok u c.w ∧ V c r u := by
  unfold lenA at h
  split at h
  · rename_i s hd
    simp only [Option.some.injEq] at h
    subst h
    simp only [V] at hv
    obtain ⟨s', rfl, rfl⟩ := hv
    exact ⟨.int .i64 s'.size, by simp [Builtin.len_, h0, run_underlying hd, goInt], by simp only [V, Array.length_toList]; rfl⟩
  · cases h
  · rename_i y n e hd _
    simp only [Option.some.injEq] at h
    subst h
    exact ⟨.int .i64 n, by simp [Builtin.len_, h0, run_underlying hd, goInt], by simp [V]⟩
  · rename_i e hd
    simp only [Option.some.injEq] at h
    subst h
    simp only [V] at hv
    subst hv
    exact ⟨.int .i64 0, by simp [Builtin.len_, h0, run_underlying hd, goInt], by simp [V]⟩
  · rename_i e sz rows ex hd
    simp only [Option.some.injEq] at h
    subst h
    simp only [V] at hv
    obtain ⟨B, off, cap, vs, rfl, _⟩ := hv
    exact ⟨.int .i64 rows.length, by simp [Builtin.len_, h0, run_underlying hd, goInt], by simp [V]⟩
  · rename_i e sz b off len cap ex hd
    simp only [Option.some.injEq] at h
    subst h
    simp only [V] at hv
    obtain ⟨B, base, k, o, _, rfl, _⟩ := hv
    exact ⟨.int .i64 len, by simp [Builtin.len_, h0, run_underlying hd, goInt], by simp [V]⟩
  · rename_i kt e hd
    simp only [Option.some.injEq] at h
    subst h
    simp only [V] at hv
    subst hv
    exact ⟨.int .i64 0, by simp [Builtin.len_, h0, run_underlying hd, goInt], by simp [V]⟩
  · rename_i kt e b hd
    split at h
    · rename_i es hb
      simp only [Option.some.injEq] at h
      subst h
      simp only [V] at hv
      obtain ⟨B, hi, rfl⟩ := hv
      obtain ⟨B', base', hi2, _, _, _, ms, clock, hm, hes⟩ := hR.blk b _ hb
      rw [hi] at hi2
      simp only [Option.some.injEq, Prod.mk.injEq] at hi2
      obtain ⟨rfl, rfl⟩ := hi2
      have hl := Es_length hes
      refine ⟨.int .i64 ms.size, ?_, ?_⟩
      · simp [Builtin.len_, h0, run_underlying hd, run_getMap hm, goInt]
      · simp [V, hl]
    · cases h
  · cases h

theorem nilCheckA_sim {c : Cx} {x r : AVal} {v : Value} (h : nilCheckA x = some r) (hv : V c x v) : V c r v ∧ ((∃ a, v = .pointer (some a)) ∨ ∃ f p q, v = .func (.func f) p q) := by
  unfold nilCheckA at h
  split at h <;> first
    | (cases h; done)
    | (simp only [Option.some.injEq] at h; subst h; refine ⟨hv, ?_⟩; simp only [V] at hv)
  · obtain ⟨_, _, _, rfl⟩ := hv; exact .inl ⟨_, rfl⟩
  · obtain ⟨_, _, _, rfl, _⟩ := hv; exact .inl ⟨_, rfl⟩
  · obtain ⟨_, _, _, _, _, rfl, _⟩ := hv; exact .inl ⟨_, rfl⟩
  · obtain ⟨_, _, rfl, _⟩ := hv; exact .inr ⟨_, _, _, rfl⟩

theorem OptV_map {S : AStat} {c : Cx} {ρ : List AVal} {a : Act} (x : Option Operand) (h : ∀ y ∈ x, V c (evalA S ρ y) (a.eval y)) : OptV c (x.map (evalA S ρ)) (x.map a.eval) := by
  cases x with
  | none => trivial
  | some x => exact h x rfl

theorem bytesOf_sim {c : Cx} : ∀ {rows : List (List AVal)} {l : List UInt8} {vs : List Value}, bytesOf? rows = some l → Vss c 1 rows vs →
    ∃ ns : List Int, vs = ns.map (Value.int .u8) ∧ l = ns.map fun n => UInt8.ofNat n.toNat
  | [], l, vs, h, hv => by
    simp only [bytesOf?, Option.some.injEq] at h
    simp only [Vss] at hv
    subst h hv
    exact ⟨[], rfl, rfl⟩
  | r :: rs, l, vs, h, hv => by
    unfold bytesOf? at h
    split at h
    · rename_i e; cases e
    · rename_i n rs' e
      cases e
      rw [Option.map_eq_some_iff] at h
      obtain ⟨l', h1, rfl⟩ := h
      simp only [Vss, Vs, V] at hv
      obtain ⟨us, ws, rfl, _, ⟨_, _, rfl, rfl, rfl⟩, h2⟩ := hv
      obtain ⟨ns, rfl, rfl⟩ := bytesOf_sim h1 h2
      exact ⟨n :: ns, rfl, rfl⟩
    · cases h

theorem foldl_push (ns : List Int) : ∀ s : ByteArray, (ns.foldl (fun (r : ByteArray) n => r.push (UInt8.ofNat n.toNat)) s).data.toList = s.data.toList ++ ns.map fun n => UInt8.ofNat n.toNat := by
  induction ns with
  | nil => intro s; simp
  | cons n ns ih =>
    intro s
    simp only [List.foldl_cons, List.map_cons]
    rw [ih]
    simp [ByteArray.push]

theorem strOfA_sim {c : Cx} {H : Heap} (hR : Rel c H) {s d : TypeId} {x r : AVal} (h : strOfA P s d H x = some r) {v : Value} (hv : V c x v) : ∃ u, (convert s d v).run P c.w = .ok u c.w ∧ V c r u := by
  have main : ∀ {e : TypeId} {B o len cap : Nat} {rows : List (List AVal)} {vs : List Value} {l : List UInt8}, P.underlying s = some (.slice e) → P.underlying d = some .string → P.underlying e = some (.int .u8) →
      bytesOf? rows = some l → rows.length = len → At c.w B o vs → Vss c 1 rows vs → ∃ u, (convert s d (.slice (some ⟨B, o, none⟩) len cap)).run P c.w = .ok u c.w ∧ V c (.str l) u := by
    intro e B o len cap rows vs l hs hd he hb hlen ha hvs
    obtain ⟨ns, rfl, rfl⟩ := bytesOf_sim hb hvs
    have hl := Vss_length hvs
    simp only [List.length_map, Nat.mul_one] at hl
    have hc : (loadCells ⟨B, o, none⟩ len).run P c.w = .ok (ns.map (Value.int .u8)).toArray c.w := by
      have := run_loadCells_list (P := P) c.w ⟨B, o, none⟩ (ns.map (Value.int .u8)) fun j v hj => by rw [add_plain]; exact ha j v hj
      rw [List.length_map, hl, hlen] at this
      exact this
    refine ⟨_, by rw [run_convert_bytes_string c.w s d e _ _ _ hs he hd, run_bytesToString c.w _ _ _ ns hc], ?_⟩
    simp only [V]
    exact ⟨_, rfl, by rw [foldl_push]; rfl⟩
  unfold strOfA at h
  split at h
  · rename_i e hs hd
    split at h
    · rename_i he
      simp only [Option.some.injEq] at h
      subst h
      simp only [V] at hv
      subst hv
      refine ⟨.string .empty, ?_, by simp only [V]; exact ⟨_, rfl, rfl⟩⟩
      rw [run_convert_bytes_string c.w s d e _ _ _ hs he hd]
      simp [Conv.bytesToString]
    · rename_i sz rows ex he
      split at h
      · rename_i hsz
        subst hsz
        rw [Option.map_eq_some_iff] at h
        obtain ⟨l, h1, rfl⟩ := h
        simp only [V] at hv
        obtain ⟨B, o, cap, vs, rfl, _, _, _, ha, hvs⟩ := hv
        exact main hs hd he h1 rfl ha (Vss_ext (Ext.of_pure c) _ _ _ hvs)
      · cases h
    · rename_i sz b off len cap ex he
      split at h
      · rename_i hsz
        subst hsz
        split at h
        · rename_i cs hb
          split at h
          · rename_i hle
            rw [Option.map_eq_some_iff] at h
            obtain ⟨l, h1, rfl⟩ := h
            simp only [V] at hv
            obtain ⟨B, base, k, o, hi, rfl, h0, hlen, hk, _, _⟩ := hv
            obtain ⟨B', base', g1, _, _, _, _, vs, ha, hvs⟩ := hR.blk b _ hb
            rw [hi] at g1
            simp only [Option.some.injEq, Prod.mk.injEq] at g1
            obtain ⟨rfl, rfl⟩ := g1
            have hch := chunk_Vss (sz := 1) len (Vs_drop off hvs) (by rw [List.length_drop]; omega)
            by_cases hk0 : 0 < k
            · have ho := h0 hk0
              subst ho
              exact main hs hd he h1 (chunk_length _ _ _) (At_take (len * 1) (At_drop off ha)) hch
            · have hl0 : len = 0 := by omega
              subst hl0
              simp only [chunk, bytesOf?, Option.some.injEq] at h1
              subst h1
              refine main (rows := []) (vs := []) hs hd he rfl rfl (fun j v hj => by simp at hj) (by simp [Vss])
          · cases h
        · cases h
      · cases h
    · cases h
  · cases h

theorem lacks_of {want : Array (String × TypeId)} {got : Array Method} : lacksA want got = false → lacking want got = [] := by
  intro h
  unfold lacksA at h
  unfold lacking
  rw [List.any_eq_false] at h
  rw [List.map_eq_nil_iff, List.filter_eq_nil_iff]
  intro m hm
  exact h m hm

theorem lacks_not {want : Array (String × TypeId)} {got : Array Method} : lacksA want got = true → lacking want got ≠ [] := by
  intro h
  unfold lacksA at h
  unfold lacking
  rw [List.any_eq_true] at h
  obtain ⟨m, hm, h⟩ := h
  intro e
  rw [List.map_eq_nil_iff, List.filter_eq_nil_iff] at e
  exact e m hm h

theorem typeAssertA_sim {c : Cx} {x : AVal} {xT t : TypeId} {ok : Bool} {r : AVal} (h : typeAssertA P x t ok = some r) {v : Value} (hv : V c x v) (w : World) :
    ∃ u, (Instr.typeAssert v xT t ok).run P w = .ok u w ∧ V c r u := by
  unfold typeAssertA at h
  split at h
  · simp only [V] at hv
    subst hv
    split at h
    · rename_i hc
      obtain ⟨rfl, hs⟩ := hc
      obtain ⟨d, hd⟩ := Option.isSome_iff_exists.1 hs
      rw [Option.map_eq_some_iff] at h
      obtain ⟨z, hz, rfl⟩ := h
      obtain ⟨u, h1, h2⟩ := run_zeroValue (P := P) (c := c) hz w
      refine ⟨.tuple #[u, .bool false], ?_, by simp only [V, Vs]; exact ⟨[u, .bool false], rfl, _, _, rfl, h2, _, _, rfl, rfl, rfl⟩⟩
      cases d <;> simp [Instr.typeAssert, run_underlying hd, h1]
    · cases h
  · rename_i t0 a
    simp only [V] at hv
    obtain ⟨u, rfl, hu⟩ := hv
    split at h
    · rename_i want hd
      split at h
      · rename_i i hi
        split at h
        · rename_i hl
          split at h
          · rename_i hok
            subst hok
            rw [Option.map_eq_some_iff] at h
            obtain ⟨z, hz, rfl⟩ := h
            obtain ⟨z', h1, h2⟩ := run_zeroValue (P := P) (c := c) hz w
            obtain ⟨m, hm⟩ := Go.missingMethod_some (lacks_not hl)
            refine ⟨.tuple #[z', .bool false], ?_, by simp only [V, Vs]; exact ⟨[z', .bool false], rfl, _, _, rfl, h2, _, _, rfl, rfl, rfl⟩⟩
            simp [Instr.typeAssert, run_underlying hd, run_typeInfo hi, hm, h1]
          · cases h
        · rename_i hl
          simp only [Option.some.injEq] at h
          subst h
          have hm := Go.missingMethod_none (lacks_of (by simpa using hl))
          cases ok
          · refine ⟨.iface t0 u, ?_, by show V c (.iface t0 a) _; simp only [V]; exact ⟨u, rfl, hu⟩⟩
            simp [Instr.typeAssert, run_underlying hd, run_typeInfo hi, hm]
          · refine ⟨.tuple #[.iface t0 u, .bool true], ?_, by show V c (.tup [.iface t0 a, .bool true]) _; simp only [V, Vs]; exact ⟨[.iface t0 u, .bool true], rfl, _, _, rfl, ⟨u, rfl, hu⟩, _, _, rfl, rfl, rfl⟩⟩
            simp [Instr.typeAssert, run_underlying hd, run_typeInfo hi, hm]
      · cases h
    · rename_i d hd0 hd
      have hd2 : ∀ ms, d ≠ .interface ms := fun ms e => hd0 ms e
      split at h
      · rename_i hut
        subst hut
        simp only [Option.some.injEq] at h
        subst h
        cases ok
        · exact ⟨u, by cases d <;> first | exact absurd rfl (hd2 _) | simp [Instr.typeAssert, run_underlying hd], hu⟩
        · refine ⟨.tuple #[u, .bool true], ?_, by show V c (.tup [a, .bool true]) _; simp only [V, Vs]; exact ⟨[u, .bool true], rfl, _, _, rfl, hu, _, _, rfl, rfl, rfl⟩⟩
          cases d <;> first | exact absurd rfl (hd2 _) | simp [Instr.typeAssert, run_underlying hd]
      · rename_i hut
        split at h
        · rename_i hok
          subst hok
          rw [Option.map_eq_some_iff] at h
          obtain ⟨z, hz, rfl⟩ := h
          obtain ⟨z', h1, h2⟩ := run_zeroValue (P := P) (c := c) hz w
          refine ⟨.tuple #[z', .bool false], ?_, by simp only [V, Vs]; exact ⟨[z', .bool false], rfl, _, _, rfl, h2, _, _, rfl, rfl, rfl⟩⟩
          cases d <;> first | exact absurd rfl (hd2 _) | simp [Instr.typeAssert, run_underlying hd, hut, h1]
        · cases h
    · cases h
  · cases h

theorem quietA_sim {S : AStat} {c : Cx} {H : Heap} {ρ : List AVal} {a : Act} (hR : Rel c H) (o : Oper) (hev : EvOn S c ρ a o.op.operands) {r : AVal} (h : quietA S ρ H o.op = some r) :
    ∃ u, (execOp a.eval o).run S.P c.w = .ok (.value u) c.w ∧ V c r u := by
  obtain ⟨dst, op, type, pos, after, guard⟩ := o
  simp only at h hev
  unfold quietA at h
  split at h
  · simp only [Option.some.injEq] at h; subst h; exact ⟨_, rfl, hev _ (by simp [Op.operands])⟩
  · simp only [Option.some.injEq] at h; subst h; exact ⟨_, rfl, hev _ (by simp [Op.operands])⟩
  · rename_i cnd x y
    have hc := hev cnd (by simp [Op.operands])
    split at h
    · rename_i e
      simp only [Option.some.injEq] at h; subst h
      rw [e] at hc
      simp only [V] at hc
      exact ⟨a.eval x, by simp [execOp, hc, asBool], hev x (by simp [Op.operands])⟩
    · rename_i e
      simp only [Option.some.injEq] at h; subst h
      rw [e] at hc
      simp only [V] at hc
      exact ⟨a.eval y, by simp [execOp, hc, asBool], hev y (by simp [Op.operands])⟩
    · cases h
  · rename_i t parts
    obtain ⟨u, h1, h2⟩ := buildA_sim (parts' := parts.map fun p => (p.1, a.eval p.2)) h (by simpa using Ps_map (c := c) (S := S) (ρ := ρ) (a := a) parts.toList (fun p hp => hev p.2 (by simp [Op.operands]; exact ⟨p.1, by simpa using hp⟩))) c.w
    exact ⟨u, by simp only [execOp, Sem.run_bind]; rw [h1]; rfl, h2⟩
  · rename_i t x
    obtain ⟨u, h1, h2⟩ := loadA_sim hR h (hev x (by simp [Op.operands]))
    exact ⟨u, by simp [execOp, h1], h2⟩
  · rename_i x
    obtain ⟨h1, h2⟩ := nilCheckA_sim h (hev x (by simp [Op.operands]))
    refine ⟨a.eval x, ?_, h1⟩
    rcases h2 with ⟨p, e⟩ | ⟨f, p, q, e⟩ <;> simp [execOp, e]
  · rename_i op t x y yt
    obtain ⟨u, h1, h2⟩ := binA_sim h (hev x (by simp [Op.operands])) (hev y (by simp [Op.operands]))
    exact ⟨u, by simp only [execOp]; rw [Sem.run_bind, h1]; rfl, h2⟩
  · rename_i op t x
    obtain ⟨u, h1, h2⟩ := unA_sim (P := S.P) h (hev x (by simp [Op.operands])) c.w
    exact ⟨u, by simp [execOp, h1], h2⟩
  · rename_i s d x
    unfold convHA at h
    split at h
    · rename_i v hv
      simp only [Option.some.injEq] at h
      subst h
      obtain ⟨u, h1, h2⟩ := convA_sim hv (hev x (by simp [Op.operands])) c.w
      exact ⟨u, by simp [execOp, h1], h2⟩
    · obtain ⟨u, h1, h2⟩ := strOfA_sim hR h (hev x (by simp [Op.operands]))
      exact ⟨u, by simp [execOp, h1], h2⟩
  · rename_i t x
    split at h
    · cases h
    · rename_i hif
      simp only [Option.some.injEq] at h; subst h
      refine ⟨.iface t (a.eval x), ?_, by simp only [V]; exact ⟨_, rfl, hev x (by simp [Op.operands])⟩⟩
      have : S.P.concrete t = true := by
        unfold ifaceB at hif
        unfold Program.concrete
        split at hif <;> first | (exact absurd rfl hif) | skip
        split <;> simp_all
      simp [execOp, run_makeInterface c.w t _ this]
  · rename_i f first captured
    simp only [Option.some.injEq] at h; subst h
    refine ⟨.func f (first.map a.eval) (captured.map a.eval), rfl, ?_⟩
    simp only [V]
    exact ⟨first.toList.map a.eval, captured.toList.map a.eval, by congr 1 <;> (apply Array.ext'; simp), Vs_mapO _ (fun x hx => hev x (by simp [Op.operands]; exact .inl (by simpa using hx))), Vs_mapO _ (fun x hx => hev x (by simp [Op.operands]; exact .inr (by simpa using hx)))⟩
  · rename_i t x lo hi mx
    obtain ⟨u, h1, h2⟩ := sliceA_sim hR h (hev x (by simp [Op.operands])) (OptV_map lo fun y hy => hev y (by cases hy; simp [Op.operands])) (OptV_map hi fun y hy => hev y (by cases hy; simp [Op.operands])) (OptV_map mx fun y hy => hev y (by cases hy; simp [Op.operands])) c.w
    exact ⟨u, by simp [execOp, h1], h2⟩
  · rename_i t x f
    obtain ⟨u, h1, h2⟩ := fieldAddrA_sim h (hev x (by simp [Op.operands])) c.w
    exact ⟨u, by simp [execOp, h1], h2⟩
  · rename_i t x f
    obtain ⟨u, h1, h2⟩ := fieldA_sim h (hev x (by simp [Op.operands])) c.w
    exact ⟨u, by simp [execOp, h1], h2⟩
  · rename_i t x i
    obtain ⟨u, h1, h2⟩ := indexAddrA_sim h (hev x (by simp [Op.operands])) (hev i (by simp [Op.operands])) c.w
    exact ⟨u, by simp [execOp, h1], h2⟩
  · rename_i t x i
    obtain ⟨u, h1, h2⟩ := indexA_sim h (hev x (by simp [Op.operands])) (hev i (by simp [Op.operands])) c.w
    exact ⟨u, by simp [execOp, h1], h2⟩
  · rename_i t m x ok
    obtain ⟨u, h1, h2⟩ := lookupA_sim hR h (hev m (by simp [Op.operands])) (hev x (by simp [Op.operands]))
    exact ⟨u, by simp [execOp, h1], h2⟩
  · rename_i x i
    split at h
    · rename_i vs e
      have hx := hev x (by simp [Op.operands])
      rw [e] at hx
      simp only [V] at hx
      obtain ⟨us, e2, hus⟩ := hx
      obtain ⟨u, h1, h2⟩ := Vs_get hus h
      exact ⟨u, by simp [execOp, e2, Instr.extract, h1], h2⟩
    · cases h
  · rename_i args ts
    split at h
    · rename_i t x ht hx
      obtain ⟨u, h1, h2⟩ := lenA_sim hR h (hev x (by simp [Op.operands, Call.operands]; exact Array.mem_of_getElem? hx)) ts type ht
      refine ⟨u, ?_, h2⟩
      have : (Builtin.len_ ts type (args.map a.eval)).run S.P c.w = .ok u c.w := by
        rw [← h1]
        simp [Builtin.len_, hx]
      simp [execOp, resolve, invoke, builtin, this]
    · cases h
  · rename_i args ts
    split at h
    · rename_i k p k' q e
      simp only [Option.some.injEq] at h; subst h
      have hl := Vs_mapO (c := c) (S := S) (ρ := ρ) (a := a) args.toList (fun x hx => hev x (by simp [Op.operands, Call.operands]; simpa using hx))
      rw [e] at hl
      simp only [Vs, V] at hl
      obtain ⟨_, _, e1, rfl, _, _, rfl, rfl, rfl⟩ := hl
      refine ⟨.int k (if q < p then q else p), ?_, by simp only [V]⟩
      simp [execOp, resolve, invoke, builtin, Builtin.min_, e1, Builtin.min2]
    · cases h
  · rename_i args ts
    split at h
    · rename_i k p k' q e
      simp only [Option.some.injEq] at h; subst h
      have hl := Vs_mapO (c := c) (S := S) (ρ := ρ) (a := a) args.toList (fun x hx => hev x (by simp [Op.operands, Call.operands]; simpa using hx))
      rw [e] at hl
      simp only [Vs, V] at hl
      obtain ⟨_, _, e1, rfl, _, _, rfl, rfl, rfl⟩ := hl
      refine ⟨.int k (if p < q then q else p), ?_, by simp only [V]⟩
      simp [execOp, resolve, invoke, builtin, Builtin.max_, e1, Builtin.max2]
    · cases h
  · rename_i x xT t ok
    obtain ⟨u, h1, h2⟩ := typeAssertA_sim (xT := xT) h (hev x (by simp [Op.operands])) c.w
    exact ⟨u, by simp [execOp, h1], h2⟩
  · cases h

theorem extCall_sim {S : AStat} {c : Cx} {ρ : List AVal} {a : Act} (o : Oper) (hev : EvOn S c ρ a o.op.operands) {f : Operand} {args : Array Operand} {ts : Array TypeId} (ho : o.op = .call { callee := .value f, args := args, argTypes := ts })
    {g : FuncId} {first captured : List AVal} (e1 : evalA S ρ f = .fn (.func g) first captured) {r : AVal} (h : S.ext g (first ++ args.toList.map (evalA S ρ) ++ captured) = some r) :
    ∃ u, (execOp a.eval o).run S.P c.w = .ok (.value u) c.w ∧ V c r u := by
  have hf := hev f (by simp [ho, Op.operands, Call.operands])
  rw [e1] at hf
  simp only [V] at hf
  obtain ⟨vs, us, e2, h1, h2⟩ := hf
  have hl := Vs_mapO (c := c) (S := S) (ρ := ρ) (a := a) args.toList (fun x hx => hev x (by simp [ho, Op.operands, Call.operands]; first | exact .inr (by simpa using hx) | simpa using hx))
  obtain ⟨u, h3, h4⟩ := S.extOk _ _ _ h c _ (Vs_append (Vs_append h1 hl) h2)
  refine ⟨u, ?_, h4⟩
  rw [← h3]
  obtain ⟨dst, op, type, pos, after, guard⟩ := o
  simp only at ho
  subst ho
  simp only [execOp, Sem.run_bind, resolve, e2, Deferred.ofValue, Sem.run_pure, Result.andThen_ok, invoke]
  congr 2
  apply Array.ext'
  simp

theorem extInv_sim {S : AStat} {c : Cx} {ρ : List AVal} {a : Act} (o : Oper) (hev : EvOn S c ρ a o.op.operands) {rcv : Operand} {name : String} {args : Array Operand} {ts : Array TypeId} (ho : o.op = .call { callee := .invoke rcv name, args := args, argTypes := ts })
    {t : TypeId} {v0 : AVal} (e1 : evalA S ρ rcv = .iface t v0) {g : FuncId} {v1 : AVal} (hm : S.methV t name v0 = some (g, v1)) {r : AVal} (h : S.ext g (v1 :: args.toList.map (evalA S ρ)) = some r) :
    ∃ u, (execOp a.eval o).run S.P c.w = .ok (.value u) c.w ∧ V c r u := by
  have hf := hev rcv (by simp [ho, Op.operands, Call.operands])
  rw [e1] at hf
  simp only [V] at hf
  obtain ⟨u, e2, hu⟩ := hf
  have hl := Vs_mapO (c := c) (S := S) (ρ := ρ) (a := a) args.toList (fun x hx => hev x (by simp [ho, Op.operands, Call.operands]; first | exact .inr (by simpa using hx) | simpa using hx))
  obtain ⟨u1, hmet, hu1⟩ := S.methVOk _ _ _ _ _ hm c u hu
  obtain ⟨r', h3, h4⟩ := S.extOk _ _ _ h c (u1 :: args.toList.map a.eval) (by simp only [Vs]; exact ⟨_, _, rfl, hu1, hl⟩)
  refine ⟨r', ?_, h4⟩
  rw [← h3]
  have e3 : #[Value.iface t u] ++ args.map a.eval = (Value.iface t u :: args.toList.map a.eval).toArray := by
    apply Array.ext'; simp
  have e4 : ((Value.iface t u :: args.toList.map a.eval).toArray.extract 1 (Value.iface t u :: args.toList.map a.eval).toArray.size) = (args.toList.map a.eval).toArray := by
    apply Array.ext'
    rw [Array.toList_extract]
    simp only [List.extract_eq_take_drop, List.drop_succ_cons, List.drop_zero, List.size_toArray, List.length_cons, List.length_map]
    rw [List.take_of_length_le (by simp)]
  obtain ⟨dst, op, type, pos, after, guard⟩ := o
  simp only at ho
  subst ho
  simp only [execOp, Sem.run_bind, resolve, e2, Sem.run_pure, Result.andThen_ok, invoke, e3]
  simp only [List.getElem?_toArray, List.getElem?_cons_zero, callMethod, Sem.run_bind, run_program, Result.andThen_ok, hmet, e4]
  congr 2
  apply Array.ext'
  simp

end Go.Am

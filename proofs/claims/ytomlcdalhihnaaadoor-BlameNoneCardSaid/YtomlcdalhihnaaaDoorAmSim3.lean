/- That the model's operations keep to the idealised ones: the quiet ones together. Generic: over any program. -/
import Derived.Test.YtomlcdalhihnaaaDoorAmSim2
namespace Go.Am
open Go.RowKit
variable {P : Program}

theorem eqGuard_none {op : BinOp} (t : TypeId) (x y : Operand) (a b : Value) (w : World)
    (h1 : a ≠ .nilIface ∨ b ≠ .nilIface ∨ (litB x || litB y) = true) (h2 : (∀ cs, a ≠ .agg cs) ∨ (∀ cs, b ≠ .agg cs)) : (eqGuard op t x y a b).run P w = .ok () w := by
  cases op <;> first
    | rfl
    | (cases a <;> cases b <;> first
        | rfl
        | (rcases h1 with h1 | h1 | h1
           · exact absurd rfl h1
           · exact absurd rfl h1
           · cases x <;> cases y <;> first | rfl | (simp [litB] at h1; done))
        | (rcases h2 with h2 | h2
           · exact absurd rfl (h2 _)
           · exact absurd rfl (h2 _)))

theorem binA_sim {c : Cx} {op : BinOp} {t : TypeId} {x y : Operand} {xa ya : AVal} {r : AVal} {a b : Value} (h : binA P op t (litB x || litB y) xa ya = some r) (ha : V c xa a) (hb : V c ya b) :
    ∃ u, (do eqGuard op t x y a b; binOp op t a b : Sem Value).run P c.w = .ok u c.w ∧ V c r u := by
  generalize hw : c.w = w
  unfold binA at h
  split at h
  · rename_i k p k' q
    simp only [V] at ha hb
    subst ha hb
    have hg : (eqGuard op t x y (.int k p) (.int k' q)).run P w = .ok () w := eqGuard_none _ _ _ _ _ _ (.inl (by simp)) (.inl (by simp))
    simp only [Sem.run_bind, hg, Result.andThen_ok]
    split at h
    · exact shiftA_sim h t w
    · exact shiftA_sim h t w
    · rename_i h1 h2
      split at h
      · rename_i hk
        subst hk
        exact intBin_sim h ⟨fun e => h1 e, fun e => h2 e⟩ t w
      · cases h
  · rename_i p q
    simp only [V] at ha hb
    obtain ⟨s, rfl, hs⟩ := ha
    obtain ⟨s', rfl, hs'⟩ := hb
    have hg : (eqGuard op t x y (.string s) (.string s')).run P w = .ok () w := eqGuard_none _ _ _ _ _ _ (.inl (by simp)) (.inl (by simp))
    simp only [Sem.run_bind, hg, Result.andThen_ok]
    exact strBin_sim h hs hs' t w
  · have guard : ∀ z, eqA P t (litB x || litB y) xa ya = some z → (eqGuard op t x y a b).run P w = .ok () w := by
      intro z hz
      unfold eqA at hz
      split at hz
      · simp only [V] at ha hb
        subst ha hb
        exact eqGuard_none _ _ _ _ _ _ (.inl (by simp)) (.inl (by simp))
      · split at hz
        · rename_i hg
          simp only [V] at ha hb
          obtain ⟨us, rfl, h1⟩ := ha
          obtain ⟨vs, rfl, h2⟩ := hb
          exact run_eqGuard_agg w op t x y _ _ hg
        · cases hz
      · simp only [V] at ha hb
        obtain ⟨us, rfl, h1⟩ := ha
        obtain ⟨vs, rfl, h2⟩ := hb
        exact eqGuard_none _ _ _ _ _ _ (.inl (by simp)) (.inl (by simp))
      · split at hz
        · rename_i k1 n1 k2 n2 h1 h2
          have va := nk_sim h1 ha
          have vb := nk_sim h2 hb
          split at hz
          · rename_i hc
            refine eqGuard_none _ _ _ _ _ _ ?_ (.inl fun cs e => by subst e; simp [vnk] at va)
            obtain ⟨rfl, _, _, h4⟩ := hc
            rcases h4 with h4 | h4 | h4 | h4
            · exact .inr (.inr h4)
            · refine .inl fun e => ?_
              subst e
              simp only [vnk, Option.some.injEq, Prod.mk.injEq] at va
              exact h4 va.1.symm
            · refine .inl fun e => ?_
              subst e
              simp only [vnk, Option.some.injEq, Prod.mk.injEq] at va
              rw [h4] at va
              cases va.2
            · refine .inr (.inl fun e => ?_)
              subst e
              simp only [vnk, Option.some.injEq, Prod.mk.injEq] at vb
              rw [h4] at vb
              cases vb.2
          · cases hz
        · cases hz
    split at h
    · rw [Option.map_eq_some_iff] at h
      obtain ⟨z, hz, rfl⟩ := h
      exact ⟨.bool z, by simp [guard z hz, (hw ▸ binOp_eq_other hz ha hb).1], by simp [V]⟩
    · rw [Option.map_eq_some_iff] at h
      obtain ⟨z, hz, rfl⟩ := h
      exact ⟨.bool (!z), by simp [guard z hz, (hw ▸ binOp_eq_other hz ha hb).2], by simp [V]⟩
    · cases h

theorem unA_sim {c : Cx} {op : UnOp} {x r : AVal} {v : Value} (h : unA op x = some r) (hv : V c x v) (w : World) : ∃ u, (Op.unary op v).run P w = .ok u w ∧ V c r u := by
  unfold unA at h
  split at h <;> first
    | (cases h; done)
    | (simp only [Option.some.injEq] at h
       subst h
       simp only [V] at hv
       subst hv
       exact ⟨_, by simp [Op.unary, Op.intArith, Op.intBits]; rfl, by simp [V]⟩)

theorem convA_sim {c : Cx} {s d : TypeId} {x r : AVal} {v : Value} (h : convA P s d x = some r) (hv : V c x v) (w : World) : ∃ u, (convert s d v).run P w = .ok u w ∧ V c r u := by
  unfold convA at h
  split at h
  · rename_i D k _ n hs hd
    simp only [Option.some.injEq] at h
    subst h
    simp only [V] at hv
    subst hv
    refine ⟨.int k (k.wrap n), ?_, by simp [V]⟩
    cases D <;> simp [convert, run_underlying hs, run_underlying hd, Conv.intToInt]
  · rename_i D l hs hd
    simp only [Option.some.injEq] at h
    subst h
    simp only [V] at hv
    obtain ⟨t, rfl, ht⟩ := hv
    refine ⟨.string t, ?_, by simp only [V]; exact ⟨t, rfl, ht⟩⟩
    cases D <;> simp [convert, run_underlying hs, run_underlying hd]
  · cases h

/-- A bound that is given, or not. -/
theorem boundA_some {c : Cx} {d y r : Nat} {x : AVal} {v : Value} (h : boundA d y (some x) = some r) (hv : V c x v) : ∃ k n, v = .int k n ∧ 0 ≤ n ∧ n ≤ (y : Int) ∧ n.toNat = r := by
  unfold boundA at h
  split at h
  · rename_i e; cases e
  · rename_i x' e
    cases e
    split at h
    · rename_i i hi
      obtain ⟨k, n, rfl, h0, rfl⟩ := idxA_sim hi hv
      split at h
      · rename_i hle
        simp only [Option.some.injEq] at h
        exact ⟨k, n, rfl, h0, by omega, h⟩
      · cases h
    · cases h

theorem run_sliceBound' {k : IntKind} {n : Int} {y : Nat} (code : Go.BoundsCode) (h0 : 0 ≤ n) (h1 : n ≤ (y : Int)) (w : World) : (Instr.sliceBound (.int k n) y code).run P w = .ok n.toNat w := by
  simp [Instr.sliceBound, asIntOf, h0, h1]

def OptV (c : Cx) : Option AVal → Option Value → Prop
  | none, none => True
  | some a, some v => V c a v
  | _, _ => False

/-- Bounds without a third one. -/
theorem run_bounds2 {c : Cx} {len cap len' cap' h l : Nat} {lo hi : Option AVal} {lo' hi' : Option Value} {isS : Bool} (hl : OptV c lo lo') (hh : OptV c hi hi')
    (e1 : boundA len' cap' hi = some h) (e2 : boundA 0 h lo = some l) (hlen : len' = len) (hcap : cap' ≤ cap) (w : World) :
    (Instr.sliceBounds isS len cap lo' hi' none).run P w = .ok (l, h, cap) w := by
  subst hlen
  have H : (match hi' with | some v => Instr.sliceBound v cap (if isS then .sliceAcap else .sliceAlen) | none => pure len' : Sem Nat).run P w = .ok h w := by
    cases hi with
    | none =>
      cases hi' with
      | none => simp only [boundA, Option.some.injEq] at e1; subst e1; rfl
      | some _ => exact hh.elim
    | some x =>
      cases hi' with
      | none => exact hh.elim
      | some v =>
        obtain ⟨k, n, rfl, h0, h1, rfl⟩ := boundA_some e1 hh
        exact run_sliceBound' _ h0 (by omega) w
  have L : (match lo' with | some v => Instr.sliceBound v h .sliceB | none => pure 0 : Sem Nat).run P w = .ok l w := by
    cases lo with
    | none =>
      cases lo' with
      | none => simp only [boundA, Option.some.injEq] at e2; subst e2; rfl
      | some _ => exact hl.elim
    | some x =>
      cases lo' with
      | none => exact hl.elim
      | some v =>
        obtain ⟨k, n, rfl, h0, h1, rfl⟩ := boundA_some e2 hl
        exact run_sliceBound' _ h0 (by omega) w
  unfold Instr.sliceBounds
  cases hi' <;> cases lo' <;> simp_all

theorem run_bounds3 {c : Cx} {len cap cap' m h l : Nat} {lo hi : Option AVal} {mx : AVal} {lo' hi' : Option Value} {mx' : Value} {isS : Bool} (hl : OptV c lo lo') (hh : OptV c hi hi') (hm : V c mx mx') (hs : hi.isSome = true)
    (e0 : boundA 0 cap' (some mx) = some m) (e1 : boundA 0 m hi = some h) (e2 : boundA 0 h lo = some l) (hcap : cap' ≤ cap) (w : World) :
    (Instr.sliceBounds isS len cap lo' hi' (some mx')).run P w = .ok (l, h, m) w := by
  obtain ⟨k0, n0, rfl, h00, h01, rfl⟩ := boundA_some e0 hm
  cases hi with
  | none => simp at hs
  | some x =>
    cases hi' with
    | none => exact hh.elim
    | some v =>
      obtain ⟨k, n, rfl, h0, h1, rfl⟩ := boundA_some e1 hh
      have M := fun code => run_sliceBound' (P := P) (k := k0) (n := n0) (y := cap) code h00 (by omega) w
      have Hh := fun code => run_sliceBound' (P := P) (k := k) (n := n) (y := n0.toNat) code h0 (by omega) w
      cases lo with
      | none =>
        cases lo' with
        | none =>
          simp only [boundA, Option.some.injEq] at e2
          subst e2
          simp [Instr.sliceBounds, M, Hh]
        | some _ => exact hl.elim
      | some y =>
        cases lo' with
        | none => exact hl.elim
        | some u =>
          obtain ⟨k2, n2, rfl, h02, h12, rfl⟩ := boundA_some e2 hl
          have L := fun code => run_sliceBound' (P := P) (k := k2) (n := n2) (y := n.toNat) code h02 (by omega) w
          simp [Instr.sliceBounds, M, Hh, L]

theorem boundA_le {d y r : Nat} {x : Option AVal} (h : boundA d y x = some r) : r = d ∨ r ≤ y := by
  unfold boundA at h
  split at h
  · simp only [Option.some.injEq] at h; exact .inl h.symm
  · split at h
    · split at h
      · simp only [Option.some.injEq] at h; omega
      · cases h
    · cases h

theorem Vss_drop {c : Cx} {sz : Nat} : ∀ {rows : List (List AVal)} {vs : List Value} (n : Nat), Vss c sz rows vs → Vss c sz (rows.drop n) (vs.drop (n * sz))
  | [], _, n, h => by simp [Vss] at h; subst h; simp [Vss]
  | x :: rows, _, 0, h => by simpa using h
  | x :: rows, _, n + 1, h => by
    simp only [Vss] at h
    obtain ⟨us, ws, rfl, hl, h1, h2⟩ := h
    have e : (us ++ ws).drop ((n + 1) * sz) = ws.drop (n * sz) := by
      rw [show (n + 1) * sz = us.length + n * sz by rw [hl, Nat.succ_mul, Nat.add_comm], ← List.drop_drop, List.drop_left]
    rw [e]
    simpa using Vss_drop n h2

theorem Vss_take {c : Cx} {sz : Nat} : ∀ {rows : List (List AVal)} {vs : List Value} (n : Nat), Vss c sz rows vs → Vss c sz (rows.take n) (vs.take (n * sz))
  | [], _, n, h => by simp [Vss] at h; subst h; simp [Vss]
  | x :: rows, _, 0, _ => by simp [Vss]
  | x :: rows, _, n + 1, h => by
    simp only [Vss] at h
    obtain ⟨us, ws, rfl, hl, h1, h2⟩ := h
    have e : (n + 1) * sz = us.length + n * sz := by rw [hl, Nat.succ_mul, Nat.add_comm]
    rw [e, List.take_length_add_append]
    simp only [List.take_succ_cons, Vss]
    exact ⟨us, _, rfl, hl, h1, Vss_take n h2⟩

theorem chunk_Vss {c : Cx} {sz : Nat} : ∀ (n : Nat) {cs : List AVal} {vs : List Value}, Vs c cs vs → n * sz ≤ cs.length → Vss c sz (chunk sz n cs) (vs.take (n * sz))
  | 0, _, _, _, _ => by simp [chunk, Vss]
  | n + 1, cs, vs, h, hl => by
    have e : (n + 1) * sz = sz + n * sz := by rw [Nat.succ_mul, Nat.add_comm]
    have hlen := Vs_length h
    simp only [chunk, Vss]
    refine ⟨vs.take sz, (vs.drop sz).take (n * sz), ?_, by simp; omega, Vs_take _ h, ?_⟩
    · rw [e, List.take_add]
    · exact chunk_Vss n (Vs_drop sz h) (by simp; omega)

theorem chunk_length (sz : Nat) : ∀ (n : Nat) (cs : List AVal), (chunk sz n cs).length = n
  | 0, _ => rfl
  | n + 1, cs => by simp [chunk, chunk_length sz n]

theorem Room.mono {w : World} {B n m : Nat} (h : Room w B n) (hm : m ≤ n) : Room w B m := by
  obtain ⟨t, k, h1, h2⟩ := h
  exact ⟨t, k, h1, by omega⟩

theorem sliceA_sim {c : Cx} {H : Heap} (hR : Rel c H) {t : TypeId} {x r : AVal} {v : Value} {lo hi mx : Option AVal} {lo' hi' mx' : Option Value} (h : sliceA P t H x lo hi mx = some r) (hv : V c x v)
    (hl : OptV c lo lo') (hh : OptV c hi hi') (hm : OptV c mx mx') (w : World) :
    ∃ u, (Instr.sliceAt t v lo' hi' mx').run P w = .ok u w ∧ V c r u := by
  unfold sliceA at h
  split at h
  · rename_i hd
    split at h
    · rename_i s
      rw [Option.bind_eq_some_iff] at h
      obtain ⟨b, e1, h⟩ := h
      rw [Option.map_eq_some_iff] at h
      obtain ⟨l, e2, rfl⟩ := h
      simp only [V] at hv
      obtain ⟨s', rfl, rfl⟩ := hv
      cases mx' with
      | some _ => exact hm.elim
      | none =>
        have hsz : s'.size = s'.data.toList.length := Array.length_toList.symm
        have := run_bounds2 (P := P) (isS := false) (len := s'.size) (cap := s'.size) hl hh e1 e2 hsz.symm (by omega) w
        refine ⟨.string (s'.extract l b), ?_, ?_⟩
        · simp only [Instr.sliceAt, Sem.run_bind, run_underlying hd, Result.andThen_ok, Instr.slice]
          simp [this]
        · simp only [V]
          refine ⟨_, rfl, ?_⟩
          rw [ByteArray.data_extract]
          simp [List.extract_eq_take_drop]
    · cases h
  · rename_i e hd
    split at h
    · rename_i hok
      have run2 : ∀ (a : Option Addr) (len cap : Nat) (l hb : Nat), (Instr.sliceBounds true len cap lo' hi' none).run P w = .ok (l, hb, cap) w → mx' = none →
          (Instr.sliceAt t (.slice a len cap) lo' hi' mx').run P w = .ok (.slice (if cap = l then a else a.map (·.add (l * szOf P e))) (hb - l) (cap - l)) w := by
        intro a len cap l hb hrun hmx
        subst hmx
        simp [Instr.sliceAt, Instr.slice, run_underlying hd, hrun, run_sizeOf hok]
      have run3 : ∀ (a : Option Addr) (len cap : Nat) (l hb m : Nat) (z : Value), (Instr.sliceBounds true len cap lo' hi' (some z)).run P w = .ok (l, hb, m) w → mx' = some z →
          (Instr.sliceAt t (.slice a len cap) lo' hi' mx').run P w = .ok (.slice (if m = l then a else a.map (·.add (l * szOf P e))) (hb - l) (m - l)) w := by
        intro a len cap l hb m z hrun hmx
        subst hmx
        simp [Instr.sliceAt, Instr.slice, run_underlying hd, hrun, run_sizeOf hok]
      split at h
      · rw [Option.bind_eq_some_iff] at h
        obtain ⟨b, e1, h⟩ := h
        rw [Option.map_eq_some_iff] at h
        obtain ⟨l, e2, rfl⟩ := h
        simp only [V] at hv
        subst hv
        cases mx' with
        | some _ => exact hm.elim
        | none =>
          have hb0 := boundA_le e1
          have hl0 := boundA_le e2
          have hb : b = 0 := by omega
          have hl1 : l = 0 := by omega
          subst hb hl1
          have := run_bounds2 (P := P) (isS := true) (len := 0) (cap := 0) hl hh e1 e2 rfl (Nat.le_refl _) w
          exact ⟨.slice none 0 0, by rw [run2 none 0 0 0 0 this rfl]; simp, by simp [V]⟩
      · cases h
      · rename_i sz rows ex
        split at h
        · rename_i hsz
          subst hsz
          rw [Option.bind_eq_some_iff] at h
          obtain ⟨b, e1, h⟩ := h
          rw [Option.map_eq_some_iff] at h
          obtain ⟨l, e2, rfl⟩ := h
          simp only [V] at hv
          obtain ⟨B, off, cap, vs, rfl, hcap, hx, hI, ha, hvs⟩ := hv
          cases mx' with
          | some _ => exact hm.elim
          | none =>
            have hb0 := boundA_le e1
            have hl0 := boundA_le e2
            have := run_bounds2 (P := P) (isS := true) (len := rows.length) (cap := cap) hl hh e1 e2 rfl hcap w
            refine ⟨_, run2 _ _ _ _ _ this rfl, ?_⟩
            have hlen : ((rows.drop l).take (b - l)).length = b - l := by simp; omega
            simp only [V, hlen]
            by_cases hc : cap = l
            · have : b - l = 0 := by omega
              rw [if_pos hc]
              refine ⟨B, off, cap - l, [], rfl, by omega, ?_, hI, ?_, ?_⟩
              · omega
              · intro j v hj; simp at hj
              · rw [this]; simp [Vss]
            · rw [if_neg hc]
              refine ⟨B, off + l * szOf P e, cap - l, (vs.drop (l * szOf P e)).take ((b - l) * szOf P e), by simp [add_plain], by omega, ?_, hI, At_take _ (At_drop _ ha), Vss_take _ (Vss_drop _ hvs)⟩
              intro hex
              simp only [Bool.and_eq_true, beq_iff_eq] at hex
              have := hx hex.1
              omega
        · cases h
      · rename_i sz rows ex m0
        split at h
        · rename_i hsz
          obtain ⟨rfl, his⟩ := hsz
          rw [Option.bind_eq_some_iff] at h
          obtain ⟨m, e0, h⟩ := h
          rw [Option.bind_eq_some_iff] at h
          obtain ⟨b, e1, h⟩ := h
          rw [Option.map_eq_some_iff] at h
          obtain ⟨l, e2, rfl⟩ := h
          simp only [V] at hv
          obtain ⟨B, off, cap, vs, rfl, hcap, hx, hI, ha, hvs⟩ := hv
          cases mx' with
          | none => exact hm.elim
          | some z =>
            have hm0 := boundA_le e0
            have hb0 := boundA_le e1
            have hl0 := boundA_le e2
            have := run_bounds3 (P := P) (isS := true) (len := rows.length) (cap := cap) hl hh hm his e0 e1 e2 hcap w
            refine ⟨_, run3 _ _ _ _ _ _ z this rfl, ?_⟩
            have hlen : ((rows.drop l).take (b - l)).length = b - l := by simp; omega
            simp only [V, hlen]
            by_cases hc : m = l
            · have : b - l = 0 := by omega
              rw [if_pos hc]
              refine ⟨B, off, m - l, [], rfl, by omega, ?_, hI, ?_, ?_⟩
              · omega
              · intro j v hj; simp at hj
              · rw [this]; simp [Vss]
            · rw [if_neg hc]
              refine ⟨B, off + l * szOf P e, m - l, (vs.drop (l * szOf P e)).take ((b - l) * szOf P e), by simp [add_plain], by omega, ?_, hI, At_take _ (At_drop _ ha), Vss_take _ (Vss_drop _ hvs)⟩
              intro hex
              simp only [beq_iff_eq] at hex
              omega
        · cases h
      · rename_i sz b0 off len cap ex
        split at h
        · rename_i hsz
          subst hsz
          rw [Option.bind_eq_some_iff] at h
          obtain ⟨b, e1, h⟩ := h
          rw [Option.map_eq_some_iff] at h
          obtain ⟨l, e2, rfl⟩ := h
          simp only [V] at hv
          obtain ⟨B, base, k, o, hi, rfl, ho, h1, h2, h3, h4⟩ := hv
          cases mx' with
          | some _ => exact hm.elim
          | none =>
            have hb0 := boundA_le e1
            have hl0 := boundA_le e2
            have := run_bounds2 (P := P) (isS := true) (len := len) (cap := k) hl hh e1 e2 rfl h2 w
            refine ⟨_, run2 _ _ _ _ _ this rfl, ?_⟩
            have hmul : l * szOf P e + (k - l) * szOf P e = k * szOf P e := by
              rw [← Nat.add_mul]; congr 1; omega
            simp only [V]
            by_cases hc : k = l
            · rw [if_pos hc]
              refine ⟨B, base, k - l, o, hi, rfl, by omega, by omega, by omega, fun hex => by have := h3 hex; omega, h4.mono (by omega)⟩
            · rw [if_neg hc]
              have ho' := ho (by omega)
              subst ho'
              refine ⟨B, base, k - l, base + off + l * szOf P e, hi, by simp [add_plain], by omega, by omega, by omega, fun hex => by have := h3 hex; omega, h4.mono (by omega)⟩
        · cases h
      · rename_i sz b0 off len cap ex m0
        split at h
        · rename_i hsz
          obtain ⟨rfl, his⟩ := hsz
          rw [Option.bind_eq_some_iff] at h
          obtain ⟨m, e0, h⟩ := h
          rw [Option.bind_eq_some_iff] at h
          obtain ⟨b, e1, h⟩ := h
          rw [Option.map_eq_some_iff] at h
          obtain ⟨l, e2, rfl⟩ := h
          simp only [V] at hv
          obtain ⟨B, base, k, o, hi, rfl, ho, h1, h2, h3, h4⟩ := hv
          cases mx' with
          | none => exact hm.elim
          | some z =>
            have hm0 := boundA_le e0
            have hb0 := boundA_le e1
            have hl0 := boundA_le e2
            have := run_bounds3 (P := P) (isS := true) (len := len) (cap := k) hl hh hm his e0 e1 e2 h2 w
            refine ⟨_, run3 _ _ _ _ _ _ z this rfl, ?_⟩
            have hmul : l * szOf P e + (k - l) * szOf P e = k * szOf P e := by
              rw [← Nat.add_mul]; congr 1; omega
            have hmul2 : (m - l) * szOf P e ≤ (k - l) * szOf P e := Nat.mul_le_mul_right _ (by omega)
            simp only [V]
            by_cases hc : m = l
            · rw [if_pos hc]
              refine ⟨B, base, m - l, o, hi, rfl, by omega, by omega, by omega, fun _ => rfl, h4.mono (by omega)⟩
            · rw [if_neg hc]
              have ho' := ho (by omega)
              subst ho'
              refine ⟨B, base, m - l, base + off + l * szOf P e, hi, by simp [add_plain], by omega, by omega, by omega, fun _ => rfl, h4.mono (by omega)⟩
        · cases h
      · cases h
    · cases h
  · rename_i n e hd
    split at h
    · rename_i hok
      obtain ⟨hok, hmx⟩ := hok
      cases mx with
      | some _ => simp at hmx
      | none =>
        cases mx' with
        | some _ => exact hm.elim
        | none =>
          have runA : ∀ (B o l hb : Nat), (Instr.sliceBounds false n n lo' hi' none).run P w = .ok (l, hb, n) w →
              (Instr.sliceAt t (.pointer (some ⟨B, o, none⟩)) lo' hi' none).run P w = .ok (.slice (some (if n = l then ⟨B, o, none⟩ else ⟨B, o + l * szOf P e, none⟩)) (hb - l) (n - l)) w := by
            intro B o l hb hrun
            simp [Instr.sliceAt, Instr.sureAddr, run_underlying hd, hrun, run_sizeOf hok, add_plain]
          split at h
          · rename_i b0 off
            split at h
            · rename_i cs hb
              split at h
              · rename_i hle
                rw [Option.bind_eq_some_iff] at h
                obtain ⟨b, e1, h⟩ := h
                rw [Option.map_eq_some_iff] at h
                obtain ⟨l, e2, rfl⟩ := h
                simp only [V] at hv
                obtain ⟨B, base, hi, rfl⟩ := hv
                have hb0 := boundA_le e1
                have hl0 := boundA_le e2
                obtain ⟨B', base', hi2, _, _, _, hroom, _⟩ := hR.blk b0 _ hb
                rw [hi] at hi2
                simp only [Option.some.injEq, Prod.mk.injEq] at hi2
                obtain ⟨rfl, rfl⟩ := hi2
                have := run_bounds2 (P := P) (isS := false) (len := n) (cap := n) hl hh e1 e2 rfl (Nat.le_refl _) w
                refine ⟨_, runA _ _ _ _ this, ?_⟩
                have hmul : l * szOf P e + (n - l) * szOf P e = n * szOf P e := by
                  rw [← Nat.add_mul]; congr 1; omega
                simp only [V]
                by_cases hc : n = l
                · rw [if_pos hc]
                  exact ⟨B, base, n - l, base + off, hi, rfl, by omega, by omega, by omega, fun _ => rfl, hroom.mono (by omega)⟩
                · rw [if_neg hc]
                  exact ⟨B, base, n - l, base + off + l * szOf P e, hi, rfl, by omega, by omega, by omega, fun _ => rfl, hroom.mono (by omega)⟩
              · cases h
            · cases h
          · rename_i cs
            split at h
            · rename_i hle
              rw [Option.bind_eq_some_iff] at h
              obtain ⟨b, e1, h⟩ := h
              rw [Option.map_eq_some_iff] at h
              obtain ⟨l, e2, rfl⟩ := h
              simp only [V] at hv
              obtain ⟨B, off, vs, rfl, hI, ha, hvs⟩ := hv
              have hb0 := boundA_le e1
              have hl0 := boundA_le e2
              have := run_bounds2 (P := P) (isS := false) (len := n) (cap := n) hl hh e1 e2 rfl (Nat.le_refl _) w
              refine ⟨_, runA _ _ _ _ this, ?_⟩
              have hmul : l * szOf P e + (n - l) * szOf P e = n * szOf P e := by
                rw [← Nat.add_mul]; congr 1; omega
              have hmul2 : (b - l) * szOf P e ≤ (n - l) * szOf P e := Nat.mul_le_mul_right _ (by omega)
              have hlv := Vs_length hvs
              have hch := chunk_Vss (sz := szOf P e) (b - l) (Vs_drop (l * szOf P e) hvs) (by simp; omega)
              simp only [V, chunk_length]
              by_cases hc : n = l
              · rw [if_pos hc]
                refine ⟨B, off, n - l, [], rfl, by omega, by intro hx; simp at hx; omega, hI, by intro j v hj; simp at hj, ?_⟩
                rw [show b - l = 0 by omega]
                simp [chunk, Vss]
              · rw [if_neg hc]
                refine ⟨B, off + l * szOf P e, n - l, _, rfl, by omega, by intro hx; simp at hx; omega, hI, At_take _ (At_drop _ ha), hch⟩
            · cases h
          · cases h
    · cases h
  · cases h

end Go.Am

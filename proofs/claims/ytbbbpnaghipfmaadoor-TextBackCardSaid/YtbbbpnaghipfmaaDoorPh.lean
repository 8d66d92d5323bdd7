/- text.Print as a hook, and its contract over rows. -/
import Derived.Test.YtbbbpnaghipfmaaDoorPw
namespace Go.Proofs.YtbbbpnaghipfmaaDoor
open Go.RowKit Go.Am Go.Sy
set_option linter.unusedVariables false
variable {Z : Xs}

/-- What the instructions are that a slice leads to. -/
inductive ArgIs (H : Heap) : AVal → List Ins → Prop
  | nils : ArgIs H .nils []
  | list {rows : List (List AVal)} {ex : Bool} {p : List Ins} : rows = p.map iv → ArgIs H (.list 5 rows ex) p
  | sl {b off cap : Nat} {ex : Bool} {cs : List AVal} {p : List Ins} : H[b]? = some (some (.cells cs)) → p.length ≤ cap →
      (∀ (i : Nat) (y : Ins) (j : Nat) (v : AVal), p[i]? = some y → (iv y)[j]? = some v → cs[off + i * 5 + j]? = some v) → ArgIs H (.sl 5 b off p.length cap ex) p
theorem iv_inj {x y : Ins} (h : iv x = iv y) : x = y := by
  simp only [iv, List.cons.injEq, AVal.int.injEq, true_and, and_true] at h
  obtain ⟨op, a, b, c, n⟩ := x
  obtain ⟨op', a', b', c', n'⟩ := y
  obtain ⟨rfl, rfl, rfl, rfl, rfl⟩ := h
  rfl
theorem ArgIs.uniq {H : Heap} {a : AVal} {p q : List Ins} (h : ArgIs H a p) (k : ArgIs H a q) : p = q := by
  cases h with
  | nils => cases k; rfl
  | list e =>
    cases k with
    | list e2 =>
      rw [e] at e2
      have : ∀ (p q : List Ins), p.map iv = q.map iv → p = q := by
        intro p
        induction p with
        | nil => intro q h; cases q with
          | nil => rfl
          | cons => cases h
        | cons x p ih =>
          intro q h
          cases q with
          | nil => cases h
          | cons y q =>
            simp only [List.map_cons, List.cons.injEq] at h
            rw [iv_inj h.1, ih q h.2]
      exact this p q e2
  | sl hb hc hr =>
    generalize hl : p.length = n at k
    cases k with
    | sl hb2 hc2 hr2 =>
      rename_i cs cs2
      rw [hb] at hb2
      obtain rfl : cs = cs2 := by simpa using hb2
      refine List.ext_getElem hl fun i h1 h2 => ?_
      refine iv_inj (List.ext_getElem? fun j => ?_)
      have e1 := fun v => hr i p[i] j v (List.getElem?_eq_getElem h1)
      have e2 := fun v => hr2 i q[i] j v (List.getElem?_eq_getElem h2)
      rcases Nat.lt_or_ge j 5 with hj | hj
      · have l1 : (iv p[i])[j]? = some ((iv p[i])[j]'hj) := List.getElem?_eq_getElem _
        have l2 : (iv q[i])[j]? = some ((iv q[i])[j]'hj) := List.getElem?_eq_getElem _
        have k1 := e1 _ l1
        have k2 := e2 _ l2
        rw [k1] at k2
        rw [l1, l2, Option.some.inj k2]
      · rw [List.getElem?_eq_none (show (iv p[i]).length ≤ j from hj), List.getElem?_eq_none (show (iv q[i]).length ≤ j from hj)]

def PrArg (H : Heap) (a : AVal) (p : List Ins) : Prop := ArgIs H a p ∧ p.length ≤ 1000 ∧ ∀ x ∈ p, okI x.n
open Classical in
noncomputable def printHook : Nat → List AVal → Heap → Option (AVal × Heap)
  | _, [a], H => if h : ∃ p, PrArg H a p then some (.tup [.str (printR (Classical.choose h)).1, .bool (printR (Classical.choose h)).2], H) else none
  | _, _, _ => none
theorem printHook_is {lo : Nat} {a : AVal} {H : Heap} {p : List Ins} (h : PrArg H a p) : printHook lo [a] H = some (.tup [.str (printR p).1, .bool (printR p).2], H) := by
  have hx : ∃ p, PrArg H a p := ⟨p, h⟩
  have e : Classical.choose hx = p := (Classical.choose_spec hx).1.uniq h.1
  simp only [printHook, dif_pos hx, e]
theorem printHook_inv {lo : Nat} {args : List AVal} {H H' : Heap} {r : AVal} (h : printHook lo args H = some (r, H')) : ∃ a p, args = [a] ∧ PrArg H a p ∧ r = .tup [.str (printR p).1, .bool (printR p).2] ∧ H' = H := by
  rcases args with _ | ⟨a, _ | ⟨b, l⟩⟩
  · simp only [printHook] at h; cases h
  · simp only [printHook] at h
    split at h
    · rename_i hx
      simp only [Option.some.injEq, Prod.mk.injEq] at h
      exact ⟨a, _, rfl, Classical.choose_spec hx, h.1.symm, h.2.symm⟩
    · cases h
  · simp only [printHook] at h; cases h
theorem printHook_low : LowHk printHook := by
  intro lo args H r H' h
  obtain ⟨_, _, _, _, _, rfl⟩ := printHook_inv h
  exact ⟨Nat.le_refl _, fun _ _ _ => rfl⟩

theorem iv_Vs {c : Cx} (x : Ins) (us : List Value) (h : Vs c (iv x) us) : us = ivV x := by
  simp only [iv, Vs, V] at h
  obtain ⟨_, _, rfl, rfl, _, _, rfl, rfl, _, _, rfl, rfl, _, _, rfl, rfl, _, _, rfl, rfl, rfl⟩ := h
  rfl
theorem rows_flat {c : Cx} : ∀ (p : List Ins) (vs : List Value), Vss c 5 (p.map iv) vs → vs = flatV p
  | [], vs, h => by simp only [List.map_nil, Vss] at h; exact h
  | x :: p, vs, h => by
    simp only [List.map_cons, Vss] at h
    obtain ⟨us, ws, rfl, _, h1, h2⟩ := h
    rw [iv_Vs x us h1, rows_flat p ws h2]
    rfl
theorem flat_inv : ∀ (p : List Ins) (j : Nat) (v : Value), (flatV p)[j]? = some v → ∃ i k x, p[i]? = some x ∧ (ivV x)[k]? = some v ∧ j = i * 5 + k ∧ k < 5
  | [], j, v, h => by simp [flatV] at h
  | y :: p, j, v, h => by
    have e : flatV (y :: p) = ivV y ++ flatV p := rfl
    have hl : (ivV y).length = 5 := rfl
    rw [e] at h
    rcases Nat.lt_or_ge j 5 with hj | hj
    · rw [List.getElem?_append_left (by omega)] at h
      exact ⟨0, j, y, rfl, h, by omega, hj⟩
    · rw [List.getElem?_append_right (by omega)] at h
      obtain ⟨i, k, x, h1, h2, h3, h4⟩ := flat_inv p _ v h
      exact ⟨i + 1, k, x, h1, h2, by omega, h4⟩
theorem iv_ivV (x : Ins) (k : Nat) (v : Value) (h : (ivV x)[k]? = some v) : ∃ m, (iv x)[k]? = some (.int .i64 m) ∧ v = .int .i64 m := by
  rcases k with _ | _ | _ | _ | _ | k
  · cases h; exact ⟨_, rfl, rfl⟩
  · cases h; exact ⟨_, rfl, rfl⟩
  · cases h; exact ⟨_, rfl, rfl⟩
  · cases h; exact ⟨_, rfl, rfl⟩
  · cases h; exact ⟨_, rfl, rfl⟩
  · cases h
theorem arg_down {c : Cx} {H : Heap} (hR : Rel c H) {a : AVal} {p : List Ins} (h : ArgIs H a p) {v : Value} (hv : V c a v) :
    ∃ so cap, v = .slice so p.length cap ∧ (p ≠ [] → ∃ B o, so = some ⟨B, o, none⟩ ∧ B < c.w.heap.size ∧ At c.w B o (flatV p)) := by
  cases h with
  | nils =>
    simp only [V] at hv
    exact ⟨none, 0, hv, fun h => absurd rfl h⟩
  | list e =>
    subst e
    simp only [V] at hv
    obtain ⟨a, cap, vs, rfl, _, _, hm, hvs⟩ := hv
    refine ⟨some a, cap, by rw [List.length_map], fun hp => ?_⟩
    rcases hm with hm | ⟨h1, h2, h3⟩
    · exact absurd (by simpa using hm) hp
    · rw [rows_flat p vs hvs] at h3
      obtain ⟨ab, ao, asp⟩ := a
      simp only at h1 h2 h3
      subst h1
      exact ⟨ab, ao, rfl, hR.lt _ h2, h3⟩
  | sl hb hc hr =>
    rename_i b off cap ex cs
    simp only [V] at hv
    obtain ⟨B, base, k, o, hi, rfl, h0, h1, h2, _, _⟩ := hv
    refine ⟨_, k, rfl, fun hp => ⟨B, o, rfl, ?_⟩⟩
    obtain ⟨B', base', g1, _, g2, g3⟩ := hR.blk b _ hb
    rw [hi] at g1
    simp only [Option.some.injEq, Prod.mk.injEq] at g1
    obtain ⟨rfl, rfl⟩ := g1
    have hpos : 0 < p.length := List.length_pos_iff.2 hp
    have ho := h0 (by omega)
    refine ⟨g2, fun j v hj => ?_⟩
    obtain ⟨i, m, x, e1, e2, rfl, e4⟩ := flat_inv p j v hj
    obtain ⟨n, e5, rfl⟩ := iv_ivV x m v e2
    have e6 := hr i x m _ e1 e5
    obtain ⟨_, _, vs, hat, hvs⟩ := g3
    have e7 := Vs_getD hvs (off + i * 5 + m)
    have e8 : vs[off + i * 5 + m]? = some (.int .i64 n) := by
      have hlen := Vs_length hvs
      have hlt : off + i * 5 + m < vs.length := by
        rw [← hlen]
        rcases Nat.lt_or_ge (off + i * 5 + m) cs.length with h | h
        · exact h
        · rw [List.getElem?_eq_none h] at e6; cases e6
      rw [List.getD_eq_getElem?_getD, List.getD_eq_getElem?_getD, e6, List.getElem?_eq_getElem hlt] at e7
      simp only [Option.getD_some, V] at e7
      rw [List.getElem?_eq_getElem hlt, e7]
    have := hat _ _ e8
    rw [ho, show base + off + (i * 5 + m) = base + (off + i * 5 + m) by omega]
    exact this
theorem printHook_ok : HkOk 11 printHook := by
  intro lo args H r H' h c vs hR hG hv
  refine ⟨⟨_, Tryd.func11, by kernel_rfl⟩, ?_⟩
  obtain ⟨a, p, rfl, ⟨h1, h2, h3⟩, rfl, rfl⟩ := printHook_inv h
  simp only [Vs] at hv
  obtain ⟨v, _, rfl, hv, rfl⟩ := hv
  obtain ⟨so, cap, rfl, hs⟩ := arg_down hR h1 hv
  refine hook_of hR ((print_walk hR hG p so cap h2 h3 hs).mono ?_)
  rintro e w' ⟨rfl, hb⟩
  exact ⟨_, fun _ => False, rfl, hb, fun _ h => h.elim, by simp only [V, Vs]; exact ⟨_, rfl, _, _, rfl, ⟨_, rfl, rfl⟩, _, _, rfl, rfl, rfl⟩⟩
noncomputable def prXs : Xs := ⟨some printHook, fun g h => by obtain rfl := Option.some.inj h; exact printHook_low⟩
theorem prXsOk : ∀ g, prXs.hk = some g → HkOk 11 g := fun g h => by obtain rfl := Option.some.inj h; exact printHook_ok

/-! ### Over rows -/
theorem cellI {E : Env} {y : Ins} {j : Nat} {x : SV cod.T} {a : AVal} (h1 : (enc2 y)[j]? = some x) (h2 : Er (C := cod) E x a) : (iv y)[j]? = some a := by
  rcases j with _ | _ | _ | _ | _ | j
  · cases h1; obtain rfl := intOf_ok h2 rfl; rfl
  · cases h1; obtain rfl := intOf_ok h2 rfl; rfl
  · cases h1; obtain rfl := intOf_ok h2 rfl; rfl
  · cases h1; obtain rfl := intOf_ok h2 rfl; rfl
  · cases h1; obtain rfl := intOf_ok h2 rfl; rfl
  · cases h1
theorem cellX (y : Ins) (j : Nat) (v : AVal) (h1 : (iv y)[j]? = some v) : j < 5 ∧ ∃ x : SV cod.T, (enc2 y)[j]? = some x := by
  rcases j with _ | _ | _ | _ | _ | j
  · exact ⟨by omega, _, rfl⟩
  · exact ⟨by omega, _, rfl⟩
  · exact ⟨by omega, _, rfl⟩
  · exact ⟨by omega, _, rfl⟩
  · exact ⟨by omega, _, rfl⟩
  · cases h1
theorem some_lt {α : Type} {l : List α} {i : Nat} {x : α} (h : l[i]? = some x) : i < l.length := by
  rcases Nat.lt_or_ge i l.length with h1 | h1
  · exact h1
  · rw [List.getElem?_eq_none h1] at h; cases h
theorem list_arg {E : Env} {rows : List (List AVal)} {p : List Ins} (hl : rows.length = p.length) (hr : ∀ (i : Nat) (r : List AVal), rows[i]? = some r → r.length = 5)
    (hc : ∀ (i : Nat) (y : Ins) (r : List AVal) (j : Nat) (x : SV cod.T) (a : AVal), p[i]? = some y → rows[i]? = some r → (enc2 y)[j]? = some x → r[j]? = some a → Er (C := cod) E x a) : rows = p.map iv := by
  refine List.ext_getElem? fun i => ?_
  rw [List.getElem?_map]
  cases hp : p[i]? with
  | none =>
    have hle : p.length ≤ i := by
      rcases Nat.lt_or_ge i p.length with h | h
      · rw [List.getElem?_eq_getElem h] at hp; cases hp
      · exact h
    rw [List.getElem?_eq_none (by rw [hl]; exact hle)]
    rfl
  | some y =>
    have hlt : i < rows.length := by rw [hl]; exact some_lt hp
    have hri : rows[i]? = some rows[i] := List.getElem?_eq_getElem hlt
    rw [hri]
    refine congrArg some (List.ext_getElem? fun j => ?_)
    have hr5 : rows[i].length = 5 := hr i _ hri
    rcases Nat.lt_or_ge j 5 with hj | hj
    · have hj' : rows[i][j]? = some (rows[i][j]'(by omega)) := List.getElem?_eq_getElem (by omega)
      have hv : (iv y)[j]? = some ((iv y)[j]'hj) := List.getElem?_eq_getElem _
      obtain ⟨_, x, hx⟩ := cellX y j _ hv
      have := cellI hx (hc i y _ j x _ hp hri hx hj')
      rw [hj', this]
    · rw [List.getElem?_eq_none (by omega), List.getElem?_eq_none (show (iv y).length ≤ j from hj)]
theorem sl_arg {E : Env} {H : Heap} {cs : List AVal} {b off cap : Nat} {ex : Bool} {p : List Ins} (hH : H[b]? = some (some (.cells cs))) (hle : off + p.length * 5 ≤ cs.length) (hcap : p.length ≤ cap)
    (hc : ∀ (i : Nat) (y : Ins) (j : Nat) (x : SV cod.T) (a : AVal), p[i]? = some y → (enc2 y)[j]? = some x → cs[off + i * 5 + j]? = some a → Er (C := cod) E x a) : ArgIs H (.sl 5 b off p.length cap ex) p := by
  refine .sl (cs := cs) hH hcap fun i y j v hy hv => ?_
  obtain ⟨hj, x, hx⟩ := cellX y j v hv
  have hi := some_lt hy
  have hlt : off + i * 5 + j < cs.length := by
    have : (i + 1) * 5 ≤ p.length * 5 := Nat.mul_le_mul_right 5 hi
    omega
  have hcs : cs[off + i * 5 + j]? = some cs[off + i * 5 + j] := List.getElem?_eq_getElem hlt
  have := cellI hx (hc i y j x _ hy hx hcs)
  rw [hv] at this
  rw [hcs, Option.some.inj this]
theorem tl_arg {E : Env} {lo wlo : Nat} {h : SH cod} {H : Heap} (hS : SimH E lo wlo h H) {p : List (cod.T 2)} {a : AVal} (ha : Er (C := cod) E (.tl 2 p) a) : ArgIs H a p := by
  cases ha with
  | tlN => exact .nils
  | tlL hz hl hr hc =>
    rename_i z rows ex
    subst hz
    exact .list (list_arg (E := E) (p := p) hl hr hc)
  | tlS hz hl hF hle hcap hc =>
    rename_i z b off len cap cs ex
    subst hz
    subst hl
    exact sl_arg (E := E) (p := p) (hS.fr b cs hF).1 hle hcap hc
noncomputable def printCtr : Ctr cod := fun _ args h K => match args with
  | [.tl n p] => if e : n = 2 then .need ((castL e p : List Ins).length ≤ 1000 ∧ ∀ x ∈ (castL e p : List Ins), okI x.n) (K (.tup [.s (printR (castL e p)).1, .b (printR (castL e p)).2]) h) else .stuck "print: rows"
  | _ => .stuck "print"
theorem hook11 : (F prXs).S.hook 11 = some printHook := by kernel_rfl
theorem printOk : CtrOk1 (F prXs).S 11 printCtr := by
  intro E lo wlo args h H K av hh hS hA
  unfold printCtr at hh
  split at hh
  · rename_i n p
    obtain ⟨a0, as1, rfl, h1, hA1⟩ := hA.inv_cons
    obtain rfl := hA1.inv_nil
    split at hh
    · rename_i e
      subst e
      obtain ⟨hk, hh⟩ := hh
      have ha := tl_arg hS h1
      refine quiet_out hook11 (printHook_is ⟨ha, hk⟩) hS ?_ hh
      refine .tup rfl ?_
      intro i u c hi hj
      rcases i with _ | _ | i
      · cases hi; cases hj; exact .s _
      · cases hi; cases hj; exact .b _
      · simp at hi
    · exact (stuck_no hh).elim
  · exact (stuck_no hh).elim
end Go.Proofs.YtbbbpnaghipfmaaDoor

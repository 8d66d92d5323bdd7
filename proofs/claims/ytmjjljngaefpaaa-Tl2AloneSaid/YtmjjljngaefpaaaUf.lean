/- Tl2Undo: facts of its words, its stripes, its sets. -/
import Derived.Test.YtmjjljngaefpaaaUq
namespace Go.Proofs.Ytmjjljngaefpaaa
open Go.RowKit Go.Am Go.Sy
set_option linter.unusedVariables false
set_option linter.unusedSimpArgs false
theorem wN {n : Nat} (h : n < 100000000) : IntKind.i64.wrap ((n : Int) + 1) = ((n + 1 : Nat) : Int) := by rw [wrap64 (by omega) (by omega)]; rfl
theorem wM {n : Nat} (h : n < 100000000) : IntKind.i64.wrap ((n : Int) - 1) = (n : Int) - 1 := wrap64 (by omega) (by omega)
theorem cl_le (cl : Int) : IntKind.i64.wrap (1 + IntKind.i64.wrap ((IntKind.u64.wrap cl).tmod 2)) = 1 ∨ IntKind.i64.wrap (1 + IntKind.i64.wrap ((IntKind.u64.wrap cl).tmod 2)) = 2 := by
  have h0 : 0 ≤ IntKind.u64.wrap cl := by simp only [IntKind.wrap]; exact Int.emod_nonneg _ (by decide)
  have h1 : 0 ≤ (IntKind.u64.wrap cl).tmod 2 := Int.tmod_nonneg _ h0
  have h2 : (IntKind.u64.wrap cl).tmod 2 < 2 := Int.tmod_lt_of_pos _ (by decide)
  rw [wrap64 (n := (IntKind.u64.wrap cl).tmod 2) (by omega) (by omega), wrap64 (by omega) (by omega)]
  omega
theorem opT_ok (o : Op) : 0 ≤ (opT o).pl ∧ (opT o).pl < 4 := by
  have h0 : 0 ≤ IntKind.u64.wrap o.pl := by simp only [IntKind.wrap]; exact Int.emod_nonneg _ (by decide)
  have h1 : 0 ≤ (IntKind.u64.wrap o.pl).tmod 4 := Int.tmod_nonneg _ h0
  have h2 : (IntKind.u64.wrap o.pl).tmod 4 < 4 := Int.tmod_lt_of_pos _ (by decide)
  show 0 ≤ IntKind.i64.wrap ((IntKind.u64.wrap o.pl).tmod 4) ∧ IntKind.i64.wrap ((IntKind.u64.wrap o.pl).tmod 4) < 4
  rw [wrap64 (by omega) (by omega)]
  exact ⟨h1, h2⟩
theorem plan_map (l : List Op) (h : l.length ≤ 8) : planOk (l.map opT) := by
  refine ⟨by rw [List.length_map]; exact h, fun o ho => ?_⟩
  obtain ⟨x, _, rfl⟩ := List.mem_map.1 ho
  exact opT_ok x
theorem take_opT {l : List Op} {k : Nat} (h : k < l.length) : (l.take k).map opT ++ [opT (at2 l (k : Int))] = (l.take (k + 1)).map opT := by
  rw [at2_get h, List.take_succ_eq_append_getElem h, List.map_append]
  rfl
theorem mkT_two (r : Int) (l : List Int) : mkT r l = 0 ∨ mkT r l = 2 := by
  unfold mkT
  split <;> simp
theorem wR_s {r : Int} (h0 : 0 ≤ r) (h1 : r < 3) (ck ph : Int) (l : List Int) : at0 (wR ck ph l) (2 + r) = mkT r l := by
  obtain rfl | rfl | rfl : r = 0 ∨ r = 1 ∨ r = 2 := by omega
  · rfl
  · rfl
  · rfl
theorem wR_two {r : Int} (h0 : 0 ≤ r) (h1 : r < 3) (ck ph : Int) (l : List Int) : at0 (wR ck ph l) (2 + r) = 0 ∨ at0 (wR ck ph l) (2 + r) = 2 := by
  rw [wR_s h0 h1]
  exact mkT_two r l
theorem hash_in {a : Int} (h : isData a) : 0 ≤ hashT a ∧ hashT a < 3 := by
  rcases hash_three h with e | e | e <;> omega
theorem w0_s {r : Int} (h0 : 0 ≤ r) (h1 : r < 3) : at0 (wT 0 0 0 0 0) (2 + r) = 0 := by
  obtain rfl | rfl | rfl : r = 0 ∨ r = 1 ∨ r = 2 := by omega
  · rfl
  · rfl
  · rfl
theorem w0_d {a : Int} (h : isData a) : at0 (wT 0 0 0 0 0) a = 0 := by
  rcases h with rfl | rfl | rfl | rfl <;> rfl
theorem data_lt {a : Int} (h : isData a) : 0 ≤ a ∧ a < 34 := by
  rcases h with rfl | rfl | rfl | rfl <;> decide
theorem data_of {k : Int} (h0 : 0 ≤ k) (h1 : k < 4) : isData (26 + 2 * k) := by
  unfold isData
  omega
theorem rowsT_in (l : List Int) : rowsT l ∈ L8 := by
  unfold rowsT
  cases inR 0 l <;> cases inR 1 l <;> cases inR 2 l <;> decide
theorem rows_mem : ∀ l ∈ L8, ∀ r ∈ l, 0 ≤ r ∧ r < 3 := by decide
theorem rows_len : ∀ l ∈ L8, l.length ≤ 3 := by decide
theorem rows_take : ∀ l ∈ L8, ∀ k < 4, l.take k ∈ L8 := by decide
theorem step_all : ∀ l ∈ L8, ∀ k < l.length, (0 ≤ at0 l (k : Int) ∧ at0 l (k : Int) < 3) ∧ at0 (wR 0 2 (l.take k)) (2 + at0 l (k : Int)) = 0 ∧ (wR 0 2 (l.take k)).set (2 + at0 l (k : Int)).toNat 2 = wR 0 2 (l.take (k + 1)) := by decide +kernel
theorem tak_step {l : List Int} {k : Nat} (h : k < l.length) : takT (l.take k) ++ [⟨2 + at0 l (k : Int), 0⟩] = takT (l.take (k + 1)) := by
  rw [at0_get h, List.take_succ_eq_append_getElem h]
  unfold takT
  rw [List.map_append]
  rfl
theorem tak_len (l : List Int) : (takT l).length = l.length := by unfold takT; rw [List.length_map]
theorem hasB_map (l : List Wo) (k : Int) : hasB l k = (l.map (·.pl)).any (· == k) := by
  unfold hasB
  rw [List.any_map]
  rfl
theorem filt_same {l l' : List Wo} (h : l'.map (·.pl) = l.map (·.pl)) : filtT l = filtT l' := by
  unfold filtT
  simp only [hasB_map, h]
theorem set_pl {l : List Wo} {j : Int} (h0 : 0 ≤ j) (h1 : j < (l.length : Int)) (v : Int) : (l.set j.toNat ⟨(at3 l j).pl, v⟩).map (·.pl) = l.map (·.pl) := by
  obtain ⟨k, rfl⟩ : ∃ k : Nat, j = (k : Int) := ⟨j.toNat, by omega⟩
  have hk : k < l.length := by omega
  rw [at3_get hk, List.map_set]
  show (l.map (·.pl)).set k (l[k]).pl = _
  rw [show (l[k]).pl = (l.map (·.pl))[k]'(by rw [List.length_map]; exact hk) by rw [List.getElem_map]]
  exact List.set_getElem_self _
theorem mem_map {P : Int → Prop} {l l' : List Wo} (h : l'.map (·.pl) = l.map (·.pl)) (hl : ∀ w ∈ l, P w.pl) : ∀ w ∈ l', P w.pl := by
  intro w hw
  have : w.pl ∈ l'.map (·.pl) := List.mem_map.2 ⟨w, hw, rfl⟩
  rw [h] at this
  obtain ⟨x, hx, e⟩ := List.mem_map.1 this
  rw [← e]
  exact hl x hx
theorem mem_snoc {P : Int → Prop} {l : List Wo} {x : Wo} (hl : ∀ w ∈ l, P w.pl) (hx : P x.pl) : ∀ w ∈ l ++ [x], P w.pl := by
  intro w hw
  rcases List.mem_append.1 hw with h | h
  · exact hl w h
  · rw [List.mem_singleton.1 h]; exact hx
theorem filt_or (l : List Wo) (x : Wo) (k : Int) (hk : isData k) (hx : x.pl = k) : IntKind.u64.wrap ((BitVec.ofInt IntKind.u64.bits (filtT l) ||| BitVec.ofInt IntKind.u64.bits (bitT k)).toNat : Int) = filtT (l ++ [x]) := by
  rw [filt_is, filt_is, hasB_snoc, hasB_snoc, hasB_snoc, hasB_snoc, hx]
  generalize hasB l 26 = a
  generalize hasB l 28 = b
  generalize hasB l 30 = c
  generalize hasB l 32 = d
  rcases hk with rfl | rfl | rfl | rfl
  · cases a <;> cases b <;> cases c <;> cases d <;> kernel_rfl
  · cases a <;> cases b <;> cases c <;> cases d <;> kernel_rfl
  · cases a <;> cases b <;> cases c <;> cases d <;> kernel_rfl
  · cases a <;> cases b <;> cases c <;> cases d <;> kernel_rfl
theorem find_lt : ∀ (l : List Wo) (k i : Int), findGo k l i < i + l.length ∨ findGo k l i = -1
  | [], k, i => .inr rfl
  | w :: l, k, i => by
    rw [findGo]
    split
    · left; simp only [List.length_cons]; omega
    · rcases find_lt l k (i + 1) with h | h
      · left; simp only [List.length_cons]; omega
      · exact .inr h
theorem find_ub {l : List Wo} {k : Int} (h : 0 ≤ findT l k) : findT l k < (l.length : Int) := by
  rcases find_lt l k 0 with h1 | h1
  · have : findT l k = findGo k l 0 := rfl
    omega
  · have : findT l k = findGo k l 0 := rfl
    omega
theorem plan_at {p : List Op} (hp : planOk p) {i : Nat} (h1 : 1 ≤ i) (h2 : i ≤ p.length) : 0 ≤ (at2 p (IntKind.i64.wrap ((i : Int) - 1))).pl ∧ (at2 p (IntKind.i64.wrap ((i : Int) - 1))).pl < 4 := by
  have := hp.1
  rw [wM (by omega), show (i : Int) - 1 = ((i - 1 : Nat) : Int) by omega, at2_get (show i - 1 < p.length by omega)]
  exact hp.2 _ (List.getElem_mem _)
theorem mkBase {p : List Op} {n i : Nat} {rd rs ws : List Wo} {xi : Nat} {a c bk value steps asked : Int} {W rows : List Int} (h0 : planOk p) (h1 : c = 1 ∨ c = 2) (h2 : i ≤ p.length + 1) (h3 : rd.length ≤ i) (h4 : rs.length ≤ i) (h5 : ws.length ≤ i) (h6 : ∀ w ∈ ws, isData w.pl) (h7 : ∀ w ∈ rs, 0 ≤ w.pl ∧ w.pl < 3) : baseI p ⟨n, i, rd, rs, ws, xi, a, c, bk, value, steps, asked, W, rows⟩ := ⟨h0, h1, h2, h3, h4, h5, h6, h7⟩
theorem mkRead {p : List Op} {n i : Nat} {rd rs ws : List Wo} {xi : Nat} {a c bk value steps asked : Int} {W rows : List Int} (h1 : 1 ≤ i) (h2 : i ≤ p.length) (h3 : isData a) : readI p ⟨n, i, rd, rs, ws, xi, a, c, bk, value, steps, asked, W, rows⟩ := ⟨h1, h2, h3⟩
end Go.Proofs.Ytmjjljngaefpaaa

/- A line is read alike on both sides: plain. -/
import Derived.Test.YtbbbpnaghipfmaaGreatDoorRv
namespace Go.Proofs.YtbbbpnaghipfmaaGreatDoor
open Go.RowKit Go.Am Go.Sy
set_option linter.unusedVariables false
set_option linter.unusedSimpArgs false

/-! ### Numbers -/
theorem dig_is (s : List UInt8) : digS s = dR s := by
  unfold digS dR negB
  by_cases h : s.take 1 = [45]
  · rw [if_pos h, if_pos (by rw [h]; rfl)]
  · rw [if_neg h, if_neg (by simpa using h)]
theorem valG_ge : ∀ (l : List UInt8) (acc : Nat), acc * 10 ^ l.length ≤ valG acc l
  | [], acc => by rw [valG_nil]; simp
  | c :: l, acc => by
    rw [valG_cons, List.length_cons, Nat.pow_succ]
    have h1 := valG_ge l (acc * 10 + (c.toNat - 48))
    have h2 : acc * 10 * 10 ^ l.length ≤ (acc * 10 + (c.toNat - 48)) * 10 ^ l.length := Nat.mul_le_mul_right _ (Nat.le_add_right _ _)
    calc acc * (10 ^ l.length * 10) = acc * 10 * 10 ^ l.length := by rw [Nat.mul_assoc, Nat.mul_comm 10]
      _ ≤ _ := h2
      _ ≤ _ := h1
theorem valG_acc (l : List UInt8) (acc : Nat) : acc ≤ valG acc l := by
  have h := valG_ge l acc
  have h1 : acc * 1 ≤ acc * 10 ^ l.length := Nat.mul_le_mul_left _ (Nat.pow_pos (by decide))
  omega
theorem uint_is : ∀ (l : List UInt8) (acc : Nat), l.all digitB = true → acc ≤ 18446744073709551615 → Lib.parseUintM 18446744073709551615 acc l = if valG acc l ≤ 18446744073709551615 then .ok (valG acc l) else .range
  | [], acc, _, h => by rw [valG_nil, if_pos h]; rfl
  | c :: l, acc, ha, h => by
    rw [List.all_cons, Bool.and_eq_true] at ha
    have hd := digit_le ha.1
    rw [valG_cons, Lib.parseUintM, if_pos hd]
    have hg := valG_acc l (acc * 10 + (c.toNat - 48))
    split
    · rw [if_neg (by omega)]
    · split
      · rw [if_neg (by omega)]
      · exact uint_is l _ ha.2 (by omega)
theorem take_one_eq {s : List UInt8} (h : negB s = true) : ∃ r, s = 45 :: r := by
  unfold negB at h
  rcases s with _ | ⟨c, r⟩
  · cases h
  · rw [List.take_succ_cons, List.take_zero] at h
    have : c = 45 := by simpa using h
    exact ⟨r, by rw [this]⟩
theorem pow64 : (2 : Nat) ^ 64 - 1 = 18446744073709551615 := by decide
theorem pow63 : (2 : Nat) ^ (64 - 1) = 9223372036854775808 := by decide
/-- What ParseInt answers of digits behind a sign or none. -/
theorem int_is {s : List UInt8} (hne : dR s ≠ []) (ha : (dR s).all digitB = true) : Lib.parseIntB 64 s =
    if valG 0 (dR s) ≤ 18446744073709551615 then (if negB s = true then (if 9223372036854775808 < valG 0 (dR s) then .range else .ok (-(valG 0 (dR s) : Int))) else if 9223372036854775808 ≤ valG 0 (dR s) then .range else .ok (valG 0 (dR s) : Int)) else .range := by
  have hu : Lib.parseUintB 64 (dR s) = if valG 0 (dR s) ≤ 18446744073709551615 then .ok (valG 0 (dR s)) else .range := by
    unfold Lib.parseUintB
    rw [if_neg hne, pow64]
    exact uint_is _ 0 ha (by omega)
  cases hn : negB s with
  | true =>
    obtain ⟨r, rfl⟩ := take_one_eq hn
    have hd : dR (45 :: r) = r := by rw [dR_neg hn]; rfl
    rw [hd] at hu ⊢
    have e45 : (45 : UInt8).toNat = 45 := rfl
    unfold Lib.parseIntB
    simp only [e45, or_true, if_true, hu, not_true_eq_false, false_and, if_false, true_and, pow63]
    by_cases hle : valG 0 r ≤ 18446744073709551615
    · rw [if_pos hle, if_pos hle]
    · rw [if_neg hle, if_neg hle]
  | false =>
    have hd : dR s = s := dR_pos hn
    rw [hd] at hu ha hne ⊢
    rcases s with _ | ⟨c, r⟩
    · exact absurd rfl hne
    · rw [List.all_cons, Bool.and_eq_true] at ha
      have hc := digit_le ha.1
      have h43 : ¬ c.toNat = 43 := by omega
      have h45 : ¬ c.toNat = 45 := by omega
      unfold Lib.parseIntB
      simp only [h43, h45, or_self, if_false, hu, not_false_eq_true, true_and, false_and, pow63, Bool.false_eq_true]
      by_cases hle : valG 0 (c :: r) ≤ 18446744073709551615
      · rw [if_pos hle, if_pos hle]
      · rw [if_neg hle, if_neg hle]
theorem head_is (s : List UInt8) (h : headB s = false) : dR s ≠ [] ∧ (((dR s).getD 0 0).toNat = 48 → (dR s).length = 1 ∧ negB s = false) := by
  unfold headB at h
  rw [dig_is, Bool.or_eq_false_iff] at h
  obtain ⟨h1, h2⟩ := h
  refine ⟨by simpa using h1, fun h0 => ?_⟩
  have h0 : (dR s).getD 0 0 = 48 := UInt8.toNat_inj.1 h0
  rw [h0] at h2
  have h2 : s = [48] := by simpa using h2
  subst h2
  exact ⟨rfl, rfl⟩
theorem head_bad (s : List UInt8) (h : headB s = true) : badN s = true := by
  unfold headB at h
  rw [dig_is, Bool.or_eq_true, Bool.and_eq_true] at h
  rcases h with h | ⟨h1, h2⟩
  · have : dR s = [] := by simpa using h
    exact bad_short (by rw [this]; decide)
  · have h1 : (dR s).getD 0 0 = 48 := by simpa using h1
    have h2 : s ≠ [48] := by simpa using h2
    refine bad_zero (by rw [h1]; rfl) ?_
    cases hn : negB s with
    | true => exact .inr rfl
    | false =>
      left
      rw [dR_pos hn] at h1 ⊢
      rcases s with _ | ⟨c, _ | ⟨d, r⟩⟩
      · cases h1
      · have : c = 48 := h1
        rw [this] at h2
        exact absurd rfl h2
      · simp
theorem head_len (s : List UInt8) (h : headB s = false) (h19 : (dR s).length ≤ 19) : badN s = false := by
  obtain ⟨h1, h2⟩ := head_is s h
  have hp := List.length_pos_iff.2 h1
  exact bad_not (by omega) (by omega) fun h0 => ⟨by have := (h2 h0).1; omega, (h2 h0).2⟩
/-- The first digit is none of nothing: so the number is as long as it looks. -/
theorem big {l : List UInt8} (hne : l ≠ []) (ha : l.all digitB = true) (h0 : (l.getD 0 0).toNat ≠ 48) : 10 ^ (l.length - 1) ≤ valG 0 l := by
  rcases l with _ | ⟨c, r⟩
  · exact absurd rfl hne
  · rw [List.all_cons, Bool.and_eq_true] at ha
    have hc := digit_le ha.1
    have h0 : c.toNat ≠ 48 := h0
    rw [valG_cons, List.length_cons, Nat.add_sub_cancel]
    have h1 := valG_ge r (0 * 10 + (c.toNat - 48))
    have h2 : 1 * 10 ^ r.length ≤ (0 * 10 + (c.toNat - 48)) * 10 ^ r.length := Nat.mul_le_mul_right _ (by omega)
    omega
theorem num_same (s : List UInt8) : (numR s).2 = (numT s).2 ∧ ((numT s).2 = true → (numR s).1 = (numT s).1) := by
  unfold numT
  rw [dig_is]
  cases hh : headB s with
  | true =>
    obtain ⟨e1, e2, _⟩ := num_bad (head_bad s hh)
    rw [if_pos rfl]
    exact ⟨e2.symm, fun h => by cases h⟩
  | false =>
    rw [if_neg Bool.false_ne_true]
    obtain ⟨hne, h48⟩ := head_is s hh
    have hpos := List.length_pos_iff.2 hne
    by_cases ha : (dR s).all digitB = true
    · rw [if_pos ha]
      have hi := int_is hne ha
      rcases Nat.lt_or_ge 19 (dR s).length with hl | hl
      · obtain ⟨e1, e2, _⟩ := num_bad (bad_long hl)
        have hb := big hne ha (fun h0 => by have := (h48 h0).1; omega)
        have hp : (10 : Nat) ^ 19 ≤ 10 ^ ((dR s).length - 1) := Nat.pow_le_pow_right (by decide) (by omega)
        have h19 : (10 : Nat) ^ 19 = 10000000000000000000 := by decide
        rw [h19] at hp
        have hk : okB s = false := by
          unfold okB
          rw [hi]
          split
          · rename_i v hv
            revert hv
            repeat' split
            all_goals (intro hv; first | (cases hv; done) | omega)
          · rfl
        rw [if_neg (by rw [hk]; exact Bool.false_ne_true)]
        exact ⟨e2.symm, fun h => by cases h⟩
      · have hbad := head_len s hh hl
        have hlt := valG_lt (dR s) 0 ha
        have hp : (10 : Nat) ^ (dR s).length ≤ 10 ^ 19 := Nat.pow_le_pow_right (by decide) hl
        have h19 : (10 : Nat) ^ 19 = 10000000000000000000 := by decide
        rw [h19] at hp
        have hu : valG 0 (dR s) < 10000000000000000000 := by omega
        rw [if_pos (by omega)] at hi
        have e : numR s = if negB s = true then (IntKind.i64.wrap (IntKind.i64.wrap (0 - IntKind.i64.wrap (IntKind.u64.wrap ((valG 0 (dR s) : Int) - 1))) - 1), decide (valG 0 (dR s) ≤ 9223372036854775808)) else (IntKind.i64.wrap (valG 0 (dR s) : Int), decide (valG 0 (dR s) < 9223372036854775808)) := by
          unfold numR
          rw [if_neg (by rw [hbad]; exact Bool.false_ne_true), if_pos ha]
        rw [e]
        cases hn : negB s with
        | true =>
          rw [hn, if_pos rfl] at hi
          rw [if_pos rfl]
          have hb := big hne ha (fun h0 => by have := (h48 h0).2; rw [hn] at this; cases this)
          have hb1 : 1 ≤ valG 0 (dR s) := Nat.le_trans (Nat.pow_pos (by decide)) hb
          by_cases hle : 9223372036854775808 < valG 0 (dR s)
          · rw [if_pos hle] at hi
            have hk : okB s = false := by unfold okB; rw [hi]
            rw [if_neg (by rw [hk]; exact Bool.false_ne_true)]
            exact ⟨decide_eq_false (by omega), fun h => by cases h⟩
          · rw [if_neg hle] at hi
            have hk : okB s = true := by unfold okB; rw [hi]
            have hv : numV s = -(valG 0 (dR s) : Int) := by unfold numV; rw [hi]
            rw [if_pos hk, hv]
            refine ⟨decide_eq_true (by omega), fun _ => ?_⟩
            have w6 : IntKind.u64.wrap ((valG 0 (dR s) : Int) - 1) = (valG 0 (dR s) : Int) - 1 := by
              simp only [IntKind.wrap, IntKind.signed, IntKind.bits]
              simp
              omega
            rw [w6, wrap64 (n := (valG 0 (dR s) : Int) - 1) (by omega) (by omega), wrap64 (n := 0 - ((valG 0 (dR s) : Int) - 1)) (by omega) (by omega), wrap64 (by omega) (by omega)]
            omega
        | false =>
          rw [hn, if_neg Bool.false_ne_true] at hi
          rw [if_neg Bool.false_ne_true]
          by_cases hle : 9223372036854775808 ≤ valG 0 (dR s)
          · rw [if_pos hle] at hi
            have hk : okB s = false := by unfold okB; rw [hi]
            rw [if_neg (by rw [hk]; exact Bool.false_ne_true)]
            exact ⟨decide_eq_false (by omega), fun h => by cases h⟩
          · rw [if_neg hle] at hi
            have hk : okB s = true := by unfold okB; rw [hi]
            have hv : numV s = (valG 0 (dR s) : Int) := by unfold numV; rw [hi]
            rw [if_pos hk, hv]
            exact ⟨decide_eq_true (by omega), fun _ => wrap64 (by omega) (by omega)⟩
    · rw [if_neg ha]
      refine ⟨?_, fun h => by cases h⟩
      unfold numR
      split
      · rfl
      · rfl
/-- A number of one digit. -/
theorem dig_same (w : List UInt8) : digV w = if (numT w).2 = true ∧ 0 ≤ (numT w).1 ∧ (numT w).1 ≤ 9 then some (numT w).1 else none := by
  obtain ⟨n2, n1⟩ := num_same w
  by_cases hw : ∃ c, w = [c] ∧ digitB c = true
  · obtain ⟨c, rfl, hc⟩ := hw
    have hd := digit_le hc
    have hn : negB [c] = false := by
      rw [neg_cons]
      have : ¬ (c.toNat : Int) = 45 := by omega
      simpa using this
    have hr : dR [c] = [c] := dR_pos hn
    have hb : badN [c] = false := bad_not (by rw [hr]; simp) (by rw [hr]; simp) fun _ => ⟨by rw [hr]; simp, hn⟩
    have hv : valG 0 [c] = c.toNat - 48 := by rw [valG_cons, valG_nil]; omega
    have e : numR [c] = ((c.toNat : Int) - 48, true) := by
      unfold numR
      rw [if_neg (by rw [hb]; exact Bool.false_ne_true), hr, if_pos (by simp [hc]), if_neg (by rw [hn]; exact Bool.false_ne_true), hv, decide_eq_true (by omega)]
      have : IntKind.i64.wrap ((c.toNat - 48 : Nat) : Int) = ((c.toNat - 48 : Nat) : Int) := wrap64 (by omega) (by omega)
      rw [this]
      congr 1
      omega
    rw [e] at n2 n1
    have n2 : (numT [c]).2 = true := n2.symm
    have n1 : (numT [c]).1 = (c.toNat : Int) - 48 := (n1 n2).symm
    rw [if_pos ⟨n2, by omega, by omega⟩, n1]
    unfold digV
    simp only
    rw [if_pos hc]
  · have h1 : digV w = none := by
      rcases w with _ | ⟨c, _ | ⟨d, w⟩⟩
      · rfl
      · unfold digV
        simp only
        rw [if_neg]
        exact fun h => hw ⟨c, rfl, h⟩
      · rfl
    rw [h1, if_neg]
    rintro ⟨h2, h3, h4⟩
    rw [← n1 h2] at h3 h4
    rw [h2] at n2
    unfold numR at h3 h4 n2
    cases hb : badN w with
    | true => rw [if_pos hb] at n2; cases n2
    | false =>
      rw [if_neg (by rw [hb]; exact Bool.false_ne_true)] at h3 h4 n2
      by_cases ha : (dR w).all digitB = true
      · rw [if_pos ha] at h3 h4 n2
        obtain ⟨hl1, hl2⟩ := bad_len hb
        have hne : dR w ≠ [] := List.length_pos_iff.1 hl1
        have hz : ((dR w).getD 0 0).toNat = 48 → (dR w).length = 1 ∧ negB w = false := by
          intro h0
          have hb2 := hb
          constructor
          · rcases Nat.lt_or_ge 1 (dR w).length with g | g
            · rw [bad_zero h0 (.inl g)] at hb2; cases hb2
            · omega
          · cases hn : negB w with
            | false => rfl
            | true => rw [bad_zero h0 (.inr hn)] at hb2; cases hb2
        cases hn : negB w with
        | true =>
          rw [hn, if_pos rfl] at h3 n2
          have n2 : valG 0 (dR w) ≤ 9223372036854775808 := by simpa using n2
          have hg := big hne ha (fun h0 => by have := (hz h0).2; rw [hn] at this; cases this)
          have hb1 : 1 ≤ valG 0 (dR w) := Nat.le_trans (Nat.pow_pos (by decide)) hg
          have w6 : IntKind.u64.wrap ((valG 0 (dR w) : Int) - 1) = (valG 0 (dR w) : Int) - 1 := by
            simp only [IntKind.wrap, IntKind.signed, IntKind.bits]
            simp
            omega
          simp only at h3
          rw [w6, wrap64 (n := (valG 0 (dR w) : Int) - 1) (by omega) (by omega), wrap64 (n := 0 - ((valG 0 (dR w) : Int) - 1)) (by omega) (by omega), wrap64 (by omega) (by omega)] at h3
          omega
        | false =>
          rw [hn, if_neg Bool.false_ne_true] at h4 n2
          have n2 : valG 0 (dR w) < 9223372036854775808 := by simpa using n2
          simp only at h4
          rw [wrap64 (by omega) (by omega)] at h4
          have hd : dR w = w := dR_pos hn
          rcases Nat.lt_or_ge 1 (dR w).length with g | g
          · have hg := big hne ha (fun h0 => by have := (hz h0).1; omega)
            have hp : (10 : Nat) ^ 1 ≤ 10 ^ ((dR w).length - 1) := Nat.pow_le_pow_right (by decide) (by omega)
            omega
          · rw [hd] at g hl1 ha
            rcases w with _ | ⟨c, _ | ⟨d, w⟩⟩
            · simp at hl1
            · exact hw ⟨c, rfl, by simpa using ha⟩
            · simp at g
      · rw [if_neg ha] at n2; cases n2

/-! ### Fields -/
theorem fill_rest : ∀ (f : List UInt8) (l : List (List UInt8)) (i j : Ins) (r : List (List UInt8)), refFill f l i = some (j, r) → r.length + f.length = l.length
  | [], l, i, j, r, h => by
    rw [refFill] at h
    cases h
    rfl
  | c :: f, [], i, j, r, h => by cases h
  | c :: f, w :: l, i, j, r, h => by
    rw [refFill] at h
    simp only [List.length_cons]
    split at h
    · split at h
      · have := fill_rest f l _ j r h; omega
      · cases h
    · split at h
      · have := fill_rest f l _ j r h; omega
      · cases h
theorem fillT_n {f : List UInt8} {w : List UInt8} {l : List (List UInt8)} {i : Ins} : fillT (110 :: f) (w :: l) i = if (numT w).2 = true then fillT f l (setF 110 (numT w).1 i) else none := by
  rw [fillT]
  cases (numT w).2 <;> simp
theorem fillT_d {c : UInt8} (hc : c ≠ 110) {f : List UInt8} {w : List UInt8} {l : List (List UInt8)} {i : Ins} : fillT (c :: f) (w :: l) i = if (numT w).2 = true ∧ 0 ≤ (numT w).1 ∧ (numT w).1 ≤ 9 then fillT f l (setF c (numT w).1 i) else none := by
  have hb : (c == 110) = false := by simpa using hc
  rw [fillT, hb]
  by_cases h : (numT w).2 = true ∧ 0 ≤ (numT w).1 ∧ (numT w).1 ≤ 9
  · rw [if_pos h, h.1, decide_eq_false (p := (numT w).1 < 0) (by omega), decide_eq_false (p := (numT w).1 > 9) (by omega)]
    rfl
  · rw [if_neg h, if_pos]
    cases ht : (numT w).2 with
    | false => rfl
    | true =>
      by_cases h0 : (numT w).1 < 0
      · rw [decide_eq_true h0]; rfl
      · rw [decide_eq_true (p := (numT w).1 > 9) (by
          rcases Int.lt_or_le 9 (numT w).1 with g | g
          · exact g
          · exact absurd ⟨ht, by omega, g⟩ h)]
        simp
theorem fill_same : ∀ (f : List UInt8) (l : List (List UInt8)) (i : Ins), f.length = l.length → fillT f l i = (refFill f l i).map (·.1)
  | [], l, i, h => by rw [fillT, refFill]; rfl
  | c :: f, [], i, h => by simp at h
  | c :: f, w :: l, i, h => by
    have h' : f.length = l.length := by simpa using h
    obtain ⟨n2, n1⟩ := num_same w
    by_cases hc : c = 110
    · subst hc
      rw [fillT_n, refFill, if_pos rfl, n2]
      cases ht : (numT w).2 with
      | true => rw [if_pos rfl, if_pos rfl, n1 ht, fill_same f l _ h']
      | false => rw [if_neg Bool.false_ne_true, if_neg Bool.false_ne_true]; rfl
    · rw [fillT_d hc, refFill, if_neg hc, dig_same]
      by_cases hv : (numT w).2 = true ∧ 0 ≤ (numT w).1 ∧ (numT w).1 ≤ 9
      · rw [if_pos hv, if_pos hv, fill_same f l _ h']
      · rw [if_neg hv, if_neg hv]; rfl
theorem num_nil : (numT []).2 = false := by
  unfold numT headB digS
  rfl
theorem fill_empty : ∀ (f : List UInt8) (l : List (List UInt8)) (i : Ins), f.length = l.length → [] ∈ l → fillT f l i = none
  | [], l, i, h, hm => by
    have : l = [] := List.length_eq_zero_iff.1 h.symm
    rw [this] at hm
    simp at hm
  | c :: f, [], i, h, hm => by simp at h
  | c :: f, w :: l, i, h, hm => by
    have h : f.length = l.length := by simpa using h
    rw [fillT]
    split
    · rfl
    · rename_i hc
      rcases List.mem_cons.1 hm with e | hm
      · rw [← e, num_nil] at hc
        simp at hc
      · exact fill_empty f l _ h hm
theorem fl_fields {op : Int} (h1 : 1 ≤ op) (h2 : op ≤ 22) : fl op 0 = fieldsOf op := by
  rcases op_cases h1 h2 with rfl | rfl | rfl | rfl | rfl | rfl | rfl | rfl | rfl | rfl | rfl | rfl | rfl | rfl | rfl | rfl | rfl | rfl | rfl | rfl | rfl | rfl <;> rfl

/-! ### All tries -/
theorem go_none {ws : List (List UInt8)} (h : ∀ k b : Nat, 1 ≤ k → k ≤ 22 → b ≤ 1 → tryT ws k b = none) : ∀ (f k b : Nat), 1 ≤ k → k ≤ 22 → readGo ws f k b = none
  | 0, k, b, _, _ => rfl
  | f + 1, k, b, h1, h2 => by
    rw [readGo]
    split
    · rename_i hb
      rw [h k b h1 h2 hb]
      exact go_none h f k (b + 1) h1 h2
    · split
      · exact go_none h f (k + 1) 0 (by omega) (by omega)
      · rfl
theorem go_from {ws : List (List UInt8)} {i : Ins} {k' b' : Nat} (ht : tryT ws k' b' = some i) (hk' : k' ≤ 22) (hb' : b' ≤ 1) (hu : ∀ k b : Nat, 1 ≤ k → k ≤ 22 → b ≤ 1 → ∀ j, tryT ws k b = some j → j = i) :
    ∀ (f k b : Nat), 1 ≤ k → k ≤ 22 → fuelOf k b ≤ f → (k < k' ∨ (k = k' ∧ b ≤ b')) → b ≤ 2 → readGo ws f k b = some i
  | 0, k, b, h1, h2, hf, hle, hb2 => by
    unfold fuelOf at hf
    omega
  | f + 1, k, b, h1, h2, hf, hle, hb2 => by
    rw [readGo]
    unfold fuelOf at hf
    split
    · rename_i hb
      cases hk : tryT ws k b with
      | some j => exact congrArg some (hu k b h1 h2 hb j hk)
      | none =>
        refine go_from ht hk' hb' hu f k (b + 1) h1 h2 (by unfold fuelOf; omega) ?_ (by omega)
        rcases hle with h | ⟨rfl, h⟩
        · exact .inl h
        · refine .inr ⟨rfl, ?_⟩
          rcases Nat.lt_or_ge b b' with g | g
          · exact g
          · have : b = b' := by omega
            subst this
            rw [ht] at hk
            cases hk
    · rename_i hb
      have hlt : k < k' := by
        rcases hle with h | ⟨rfl, h⟩
        · exact h
        · omega
      rw [if_pos (by omega)]
      exact go_from ht hk' hb' hu f (k + 1) 0 (by omega) (by omega) (by unfold fuelOf; omega) (by omega) (by omega)
theorem opGo_zero {w : List UInt8} : ∀ n : Nat, opGo w n = 0 → ∀ k : Nat, 1 ≤ k → k < n → at3 wordsL k ≠ w
  | 0, _, k, _, h => by omega
  | n + 1, h0, k, h1, h => by
    intro hw
    rw [opGo] at h0
    split at h0
    · rename_i hc
      have := hc.1
      omega
    · rename_i hc
      rcases Nat.lt_or_ge k n with g | g
      · exact opGo_zero n h0 k h1 g hw
      · have : k = n := by omega
        subst this
        exact hc ⟨h1, hw⟩
theorem opGo_some {w : List UInt8} : ∀ n : Nat, opGo w n ≠ 0 → ∃ k : Nat, 1 ≤ k ∧ k < n ∧ at3 wordsL k = w ∧ opGo w n = k
  | 0, h => absurd rfl h
  | n + 1, h => by
    rw [opGo] at h ⊢
    split at h
    · rename_i hc
      exact ⟨n, hc.1, by omega, hc.2, if_pos hc⟩
    · rename_i hc
      obtain ⟨k, h1, h2, h3, h4⟩ := opGo_some n h
      exact ⟨k, h1, by omega, h3, by rw [if_neg hc]; exact h4⟩
theorem word_ne {k b : Int} (h1 : 1 ≤ k) (h2 : k ≤ 22) : wordB k b ≠ [] := by
  unfold wordB
  split
  · simp
  · rcases op_cases h1 h2 with rfl | rfl | rfl | rfl | rfl | rfl | rfl | rfl | rfl | rfl | rfl | rfl | rfl | rfl | rfl | rfl | rfl | rfl | rfl | rfl | rfl | rfl <;> decide
theorem try_word {ws : List (List UInt8)} {k b : Int} (h : wordB k b ≠ at3 ws 0) : tryT ws k b = none := by
  unfold tryT
  rw [if_pos]
  have : (wordB k b == at3 ws 0) = false := by simpa using h
  rw [this]
  rfl
theorem try_len {ws : List (List UInt8)} {k b : Int} (h : (fieldsOf k).length + 1 ≠ ws.length) : tryT ws k b = none := by
  unfold tryT
  rw [if_pos]
  have : ((fieldsOf k).length + 1 == ws.length) = false := by simpa using h
  rw [this]
  simp
theorem at3_zero (w : List UInt8) (l : List (List UInt8)) : at3 (w :: l) 0 = w := rfl
theorem read_same (l : List UInt8) : refO l = readO l := by
  unfold readO readT
  obtain ⟨w, ws, hws⟩ : ∃ w ws, splitL 32 l = w :: ws := by
    cases h : splitL 32 l with
    | nil => exact absurd h (splitL_ne 32 l)
    | cons w ws => exact ⟨w, ws, rfl⟩
  by_cases he : [] ∈ splitL 32 l
  · have e : refO l = none := by
      unfold refO
      rw [words_no he]
      rfl
    rw [e]
    refine (go_none (fun k b h1 h2 hb => ?_) 66 1 0 (Nat.le_refl _) (by omega)).symm
    by_cases hw : wordB k b = at3 (splitL 32 l) 0
    · by_cases hl : (fieldsOf k).length + 1 = (splitL 32 l).length
      · rw [try_is hw hl]
        rw [hws] at he hl hw ⊢
        have hw : wordB k b = w := hw
        have he : [] ∈ ws := by
          rcases List.mem_cons.1 he with e | e
          · rw [← e] at hw
            exact absurd hw (word_ne (by omega) (by omega))
          · exact e
        have hl : (fieldsOf k).length = ws.length := by simpa using hl
        rw [List.drop_succ_cons, List.drop_zero, fill_empty _ _ _ hl he]
      · exact try_len hl
    · exact try_word hw
  · have hyes : wordsR l = splitL 32 l := words_yes fun v hv e => he (e ▸ hv)
    unfold refO
    rw [hyes, hws]
    generalize hW : w :: ws = W
    have hWne : W ≠ [] := by rw [← hW]; simp
    have h0 : at3 W 0 = w := by rw [← hW]; rfl
    have hdrop : W.drop 1 = ws := by rw [← hW]; rfl
    have hlen : W.length = ws.length + 1 := by rw [← hW]; rfl
    unfold insR
    rw [if_neg hWne, h0, hdrop]
    by_cases hz : opR w = 0
    · rw [if_pos hz, if_neg (fun x => Bool.false_ne_true x)]
      refine (go_none (fun k b h1 h2 hb => try_word fun hw => ?_) 66 1 0 (Nat.le_refl _) (by omega)).symm
      rw [h0] at hw
      unfold opR at hz
      by_cases hr : w = readW
      · rw [if_pos hr] at hz; omega
      · rw [if_neg hr] at hz
        unfold wordB at hw
        split at hw
        · exact hr hw.symm
        · exact opGo_zero 23 hz k h1 (by omega) hw
    · rw [if_neg hz]
      -- the word's own op, and its bit
      obtain ⟨op, b, h1, h2, hb, hop, hword, hi0⟩ : ∃ op b : Nat, 1 ≤ op ∧ op ≤ 22 ∧ b ≤ 1 ∧ opR w = op ∧ wordB op b = w ∧ i0R w = ⟨op, 0, if (op : Int) = 13 then (b : Int) else 0, 0, 0⟩ := by
        by_cases hr : w = readW
        · refine ⟨13, 1, by omega, by omega, by omega, ?_, ?_, ?_⟩
          · unfold opR; rw [if_pos hr]; rfl
          · rw [hr]; rfl
          · unfold i0R opR; rw [if_pos hr, if_pos hr]; rfl
        · have hz2 := hz
          unfold opR at hz2
          rw [if_neg hr] at hz2
          obtain ⟨k, g1, g2, g3, g4⟩ := opGo_some 23 hz2
          refine ⟨k, 0, g1, by omega, by omega, ?_, ?_, ?_⟩
          · unfold opR; rw [if_neg hr]; exact g4
          · unfold wordB; rw [if_neg (fun x => by have := x.2; omega)]; exact g3
          · unfold i0R opR; rw [if_neg hr, if_neg hr, g4]; congr 1; split <;> rfl
      rw [hop, fl_fields (by omega) (by omega), hi0]
      have same : ∀ k b' : Nat, 1 ≤ k → k ≤ 22 → b' ≤ 1 → tryT W k b' = none ∨ tryT W k b' = tryT W op b := by
        intro k b' g1 g2 g3
        by_cases hw : wordB k b' = at3 W 0
        · rw [h0, ← hword] at hw
          obtain ⟨e1, e2⟩ := word_inj (by omega) (by omega) (by omega) (by omega) hw
          have e1 : k = op := by omega
          subst e1
          right
          by_cases h13 : (k : Int) = 13
          · have := e2 h13
            have : b' = b := by omega
            rw [this]
          · unfold tryT
            rw [if_neg h13, if_neg h13, hw]
        · exact .inl (try_word hw)
      have hw : wordB op b = at3 W 0 := by rw [h0]; exact hword
      by_cases hl : (fieldsOf op).length = ws.length
      · have ht := try_is (l := W) hw (by rw [hlen]; omega)
        rw [hdrop, fill_same _ _ _ hl] at ht
        cases hf : refFill (fieldsOf op) ws ⟨op, 0, if (op : Int) = 13 then (b : Int) else 0, 0, 0⟩ with
        | none =>
          rw [hf] at ht
          have ht : tryT W op b = none := ht
          refine (go_none (fun k b' g1 g2 g3 => ?_) 66 1 0 (Nat.le_refl _) (by omega)).symm
          rcases same k b' g1 g2 g3 with e | e
          · exact e
          · rw [e]; exact ht
        | some jr =>
          obtain ⟨j, r⟩ := jr
          have hr := fill_rest _ _ _ _ _ hf
          have hr : r = [] := List.length_eq_zero_iff.1 (by omega)
          subst hr
          rw [hf] at ht
          have ht : tryT W op b = if mayB j = true then some j else none := ht
          rw [end_ok]
          cases hm : mayB j with
          | true =>
            rw [hm, if_pos rfl] at ht
            rw [if_pos rfl]
            refine (go_from ht h2 hb (fun k b' g1 g2 g3 j' hj => ?_) 66 1 0 (Nat.le_refl _) (by omega) (by unfold fuelOf; omega) (by omega) (by omega)).symm
            rcases same k b' g1 g2 g3 with e | e
            · rw [e] at hj; cases hj
            · rw [e, ht] at hj; exact (Option.some.inj hj).symm
          | false =>
            rw [hm, if_neg Bool.false_ne_true] at ht
            rw [if_neg (fun x => Bool.false_ne_true x)]
            refine (go_none (fun k b' g1 g2 g3 => ?_) 66 1 0 (Nat.le_refl _) (by omega)).symm
            rcases same k b' g1 g2 g3 with e | e
            · exact e
            · rw [e]; exact ht
      · have hno : (endR (refFill (fieldsOf op) ws ⟨op, 0, if (op : Int) = 13 then (b : Int) else 0, 0, 0⟩)).2 = false := by
          cases hf : refFill (fieldsOf op) ws ⟨op, 0, if (op : Int) = 13 then (b : Int) else 0, 0, 0⟩ with
          | none => rfl
          | some jr =>
            obtain ⟨j, r⟩ := jr
            have hr := fill_rest _ _ _ _ _ hf
            rw [end_no]
            rintro rfl
            simp at hr
            omega
        rw [if_neg (by rw [hno]; exact Bool.false_ne_true)]
        refine (go_none (fun k b' g1 g2 g3 => ?_) 66 1 0 (Nat.le_refl _) (by omega)).symm
        rcases same k b' g1 g2 g3 with e | e
        · exact e
        · rw [e]
          exact try_len (by rw [hlen]; omega)
theorem read_fun : refO = readO := funext read_same
end Go.Proofs.YtbbbpnaghipfmaaGreatDoor

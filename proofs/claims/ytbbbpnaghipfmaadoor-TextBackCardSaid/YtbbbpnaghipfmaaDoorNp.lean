/- Numerals: what they are made of, and that they are read as they were. Plain. -/
import Derived.Test.YtbbbpnaghipfmaaDoorLn
namespace Go.Proofs.YtbbbpnaghipfmaaDoor
open Go.RowKit Go.Am Go.Sy
set_option linter.unusedVariables false

theorem dd_small {u : Nat} (h : u < 10) : Lib.decDigits u = [UInt8.ofNat (48 + u)] := by rw [Lib.decDigits, dif_pos h]
theorem dd_step {u : Nat} (h : ¬ u < 10) : Lib.decDigits u = Lib.decDigits (u / 10) ++ [UInt8.ofNat (48 + u % 10)] := by rw [Lib.decDigits, dif_neg h]
theorem byte_of {n : Nat} (h : n < 10) : (UInt8.ofNat (48 + n)).toNat = 48 + n := by
  rw [UInt8.toNat_ofNat']
  omega
theorem dd_all : ∀ (n u : Nat), u ≤ n → ∀ c ∈ Lib.decDigits u, 48 ≤ c.toNat ∧ c.toNat ≤ 57
  | n, u, h, c, hc => by
    by_cases hu : u < 10
    · rw [dd_small hu, List.mem_singleton] at hc
      subst hc
      rw [byte_of hu]
      omega
    · rw [dd_step hu, List.mem_append, List.mem_singleton] at hc
      rcases hc with hc | hc
      · cases n with
        | zero => omega
        | succ n => exact dd_all n (u / 10) (by omega) c hc
      · subst hc
        rw [byte_of (Nat.mod_lt _ (by decide))]
        omega
theorem dd_ne (u : Nat) : Lib.decDigits u ≠ [] := by
  by_cases hu : u < 10
  · rw [dd_small hu]; simp
  · rw [dd_step hu]; simp
theorem dd_head : ∀ (n u : Nat), u ≤ n → ∀ r, Lib.decDigits u = 48 :: r → u = 0
  | n, u, h, r, hr => by
    by_cases hu : u < 10
    · rw [dd_small hu] at hr
      have h1 : UInt8.ofNat (48 + u) = 48 := by simpa using (List.cons.inj hr).1
      have h2 := congrArg UInt8.toNat h1
      rw [byte_of hu] at h2
      have : (48 : UInt8).toNat = 48 := rfl
      omega
    · rw [dd_step hu] at hr
      cases hd : Lib.decDigits (u / 10) with
      | nil => exact absurd hd (dd_ne _)
      | cons c l =>
        rw [hd, List.cons_append] at hr
        have : c = 48 := (List.cons.inj hr).1
        subst this
        cases n with
        | zero => omega
        | succ n =>
          have := dd_head n (u / 10) (by omega) l hd
          omega
theorem parse_app (M : Nat) : ∀ (l : List UInt8) (acc a : Nat) (c : UInt8), Lib.parseUintM M acc l = .ok a → Lib.parseUintM M acc (l ++ [c]) = Lib.parseUintM M a [c]
  | [], acc, a, c, h => by
    simp only [Lib.parseUintM] at h
    cases h
    rfl
  | x :: l, acc, a, c, h => by
    rw [List.cons_append]
    rw [Lib.parseUintM] at h ⊢
    split at h
    · rename_i h1
      rw [if_pos h1]
      split at h
      · cases h
      · rename_i h2
        rw [if_neg h2]
        split at h
        · cases h
        · rename_i h3
          rw [if_neg h3]
          exact parse_app M l _ a c h
    · cases h
theorem parse_dd (M : Nat) (hM : M ≤ 18446744073709551615) : ∀ (n u : Nat), u ≤ n → u ≤ M → Lib.parseUintM M 0 (Lib.decDigits u) = .ok u
  | n, u, h, hu => by
    by_cases h10 : u < 10
    · rw [dd_small h10]
      simp only [Lib.parseUintM, byte_of h10]
      rw [if_pos (by omega), if_neg (by omega), if_neg (by omega)]
      congr 1
      omega
    · rw [dd_step h10]
      cases n with
      | zero => omega
      | succ n =>
        rw [parse_app M _ 0 (u / 10) _ (parse_dd M hM n (u / 10) (by omega) (by omega))]
        have hm : u % 10 < 10 := Nat.mod_lt _ (by decide)
        simp only [Lib.parseUintM, byte_of hm]
        rw [if_pos (by omega), if_neg (by omega), if_neg (by omega)]
        congr 1
        omega
/-- A numeral is read as it was. -/
theorem parse_dec {n : Int} (h : okI n) : Lib.parseIntB 64 (decS n) = .ok n := by
  have h0 := h.1
  have h1 := h.2
  rw [decS_is h0 h1]
  unfold Lib.itoa
  split
  · rename_i hn
    unfold Lib.parseIntB
    simp only
    rw [if_pos (by right; rfl)]
    have hne := dd_ne n.natAbs
    have hp := parse_dd (2 ^ 64 - 1) (by decide) n.natAbs n.natAbs (Nat.le_refl _) (by omega)
    unfold Lib.parseUintB
    rw [if_neg hne, hp]
    have h45 : (45 : UInt8).toNat = 45 := rfl
    simp only [h45, not_true_eq_false, false_and, if_false, true_and, if_true]
    rw [if_neg (by omega)]
    congr 1
    omega
  · rename_i hn
    have hne := dd_ne n.toNat
    have hp := parse_dd (2 ^ 64 - 1) (by decide) n.toNat n.toNat (Nat.le_refl _) (by omega)
    cases hd : Lib.decDigits n.toNat with
    | nil => exact absurd hd hne
    | cons c r =>
      have hc := dd_all n.toNat n.toNat (Nat.le_refl _) c (by rw [hd]; exact List.mem_cons_self)
      unfold Lib.parseIntB
      simp only
      rw [if_neg (by omega)]
      unfold Lib.parseUintB
      rw [if_neg (by simp), ← hd, hp]
      have hc45 : ¬ c.toNat = 45 := by omega
      simp only [hc45, not_false_eq_true, true_and, if_false, false_and]
      rw [if_neg (by omega)]
      congr 1
      omega
/-- Behind its sign. -/
def digS (s : List UInt8) : List UInt8 := if s.take 1 = [45] then s.drop 1 else s
theorem digS_of {n : Int} (h : okI n) : digS (decS n) = Lib.decDigits n.natAbs ∧ (decS n).take 1 = (if n < 0 then [45] else (Lib.decDigits n.natAbs).take 1) := by
  rw [decS_is h.1 h.2]
  unfold Lib.itoa digS
  split
  · exact ⟨rfl, rfl⟩
  · rename_i hn
    have e : n.toNat = n.natAbs := by omega
    rw [e]
    refine ⟨?_, rfl⟩
    cases hd : Lib.decDigits n.natAbs with
    | nil => rfl
    | cons c r =>
      have hc := dd_all n.natAbs n.natAbs (Nat.le_refl _) c (by rw [hd]; exact List.mem_cons_self)
      have h45 : c ≠ 45 := by rintro rfl; have : (45 : UInt8).toNat = 45 := rfl; omega
      rw [if_neg (by simpa using h45)]
end Go.Proofs.YtbbbpnaghipfmaaDoor

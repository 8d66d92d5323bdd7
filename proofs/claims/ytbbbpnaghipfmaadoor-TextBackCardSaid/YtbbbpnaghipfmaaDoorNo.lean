/- text.number: its contract is paid. -/
import Derived.Test.YtbbbpnaghipfmaaDoorNm
namespace Go.Proofs.YtbbbpnaghipfmaaDoor
open Go.RowKit Go.Am Go.Sy
set_option linter.unusedVariables false
set_option linter.unusedSimpArgs false
variable {Z : Xs}

theorem nm_e (Z : Xs) (s : List UInt8) : Go.Sy.Tree.holds (entryX (F Z) (lookC l55) 400 Tryd.f55 b55 (nmF s) [.s s]) = ( (decide ((↑s.length : Int) ≥ (1 : Int)) = true → ((0 : Int) ≤ 0 ∧ (0 : Int) ≤ 1 ∧ (1 : Int) ≤
 (↑s.length : Int)) ∧ ((List.take (1 : Nat) (List.drop (0 : Nat) s) == [(45 : UInt8)]) = true → ((0 : Int) ≤ 1 ∧ (1 : Int) ≤ (↑s.length : Int) ∧ (↑s.length : Int) ≤ (↑s.length : Int)) ∧ ((List.take ((↑s.length :
 Int).toNat - 1) (List.drop (1 : Nat) s) == []) = true → (0 : Int) = numV s ∧ constA (Value.bool false) = AVal.bool true ∧ True) ∧ ((List.take ((↑s.length : Int).toNat - 1) (List.drop (1 : Nat) s) == []) = false → ((0 :
 Int) ≤ 0 ∧ (0 : Int) < (↑(List.take ((↑s.length : Int).toNat - 1) (List.drop (1 : Nat) s)).length : Int)) ∧ (((↑((List.take ((↑s.length : Int).toNat - 1) (List.drop (1 : Nat) s)).getD (0 : Nat) (0 : UInt8)).toNat : Int)
 == 48) = true → ((!s == [(48 : UInt8)]) = true → (0 : Int) = numV s ∧ constA (Value.bool false) = AVal.bool true ∧ True) ∧ ((!s == [(48 : UInt8)]) = false → ∃ (s_1 : Nat), s = s ∧ List.take ((↑s.length : Int).toNat - 1)
 (List.drop (1 : Nat) s) = digS s ∧ (0 : Int) = (↑s_1 : Int) ∧ s_1 ≤ (digS s).length ∧ True)) ∧ (((↑((List.take ((↑s.length : Int).toNat - 1) (List.drop (1 : Nat) s)).getD (0 : Nat) (0 : UInt8)).toNat : Int) == 48) =
 false → ∃ (s_1 : Nat), s = s ∧ List.take ((↑s.length : Int).toNat - 1) (List.drop (1 : Nat) s) = digS s ∧ (0 : Int) = (↑s_1 : Int) ∧ s_1 ≤ (digS s).length ∧ True))) ∧ ((List.take (1 : Nat) (List.drop (0 : Nat) s) == [(45
 : UInt8)]) = false → ((s == []) = true → (0 : Int) = numV s ∧ constA (Value.bool false) = AVal.bool true ∧ True) ∧ ((s == []) = false → ((0 : Int) ≤ 0 ∧ (0 : Int) < (↑s.length : Int)) ∧ (((↑(s.getD (0 : Nat) (0 :
 UInt8)).toNat : Int) == 48) = true → ((!s == [(48 : UInt8)]) = true → (0 : Int) = numV s ∧ constA (Value.bool false) = AVal.bool true ∧ True) ∧ ((!s == [(48 : UInt8)]) = false → ∃ (s_1 : Nat), s = s ∧ s = digS s ∧ (0 :
 Int) = (↑s_1 : Int) ∧ s_1 ≤ (digS s).length ∧ True)) ∧ (((↑(s.getD (0 : Nat) (0 : UInt8)).toNat : Int) == 48) = false → ∃ (s_1 : Nat), s = s ∧ s = digS s ∧ (0 : Int) = (↑s_1 : Int) ∧ s_1 ≤ (digS s).length ∧ True)))) ∧
 (decide ((↑s.length : Int) ≥ (1 : Int)) = false → ((s == []) = true → (0 : Int) = numV s ∧ constA (Value.bool false) = AVal.bool true ∧ True) ∧ ((s == []) = false → ((0 : Int) ≤ 0 ∧ (0 : Int) < (↑s.length : Int)) ∧
 (((↑(s.getD (0 : Nat) (0 : UInt8)).toNat : Int) == 48) = true → ((!s == [(48 : UInt8)]) = true → (0 : Int) = numV s ∧ constA (Value.bool false) = AVal.bool true ∧ True) ∧ ((!s == [(48 : UInt8)]) = false → ∃ (s_1 : Nat),
 s = s ∧ s = digS s ∧ (0 : Int) = (↑s_1 : Int) ∧ s_1 ≤ (digS s).length ∧ True)) ∧ (((↑(s.getD (0 : Nat) (0 : UInt8)).toNat : Int) == 48) = false → ∃ (s_1 : Nat), s = s ∧ s = digS s ∧ (0 : Int) = (↑s_1 : Int) ∧ s_1 ≤ (digS
 s).length ∧ True)))) := by kernel_rfl
theorem nm_5 (Z : Xs) (s : List UInt8) (k : Nat) : Go.Sy.Tree.holds (cutVC (F Z) (lookC l55) 400 Tryd.f55 b55 (nmF s) 5 (nmC s) k) = ( (decide ((↑k : Int) < (↑(digS s).length : Int)) = true → ((0 : Int) ≤ (↑k : Int) ∧ (↑k
 : Int) < (↑(digS s).length : Int)) ∧ (decide ((↑((digS s).getD (↑k : Int).toNat (0 : UInt8)).toNat : Int) < 48) = true → (0 : Int) = numV s ∧ constA (Value.bool false) = AVal.bool true ∧ True) ∧ (decide ((↑((digS s).getD
 (↑k : Int).toNat (0 : UInt8)).toNat : Int) < 48) = false → ((0 : Int) ≤ (↑k : Int) ∧ (↑k : Int) < (↑(digS s).length : Int)) ∧ (decide ((↑((digS s).getD (↑k : Int).toNat (0 : UInt8)).toNat : Int) > 57) = true → (0 : Int)
 = numV s ∧ constA (Value.bool false) = AVal.bool true ∧ True) ∧ (decide ((↑((digS s).getD (↑k : Int).toNat (0 : UInt8)).toNat : Int) > 57) = false → ∃ (s_1 : Nat), s = s ∧ digS s = digS s ∧ IntKind.i64.wrap ((↑k : Int) +
 1) = (↑s_1 : Int) ∧ s_1 ≤ (digS s).length ∧ (digS s).length - s_1 < (digS s).length - k ∧ True))) ∧ (decide ((↑k : Int) < (↑(digS s).length : Int)) = false → ∃ (v : Int), (s.length ≤ 1000000 ∧ Lib.parseIntB (64 : Nat) s
 = Lib.NumEnd.ok v) ∧ v = numV s ∧ AVal.bool true = AVal.bool true ∧ True)) := by kernel_rfl

structure NumS (s : List UInt8) : Prop where
  len : 1 ≤ s.length
  small : s.length ≤ 21
  dig : ∀ c ∈ digS s, 48 ≤ c.toNat ∧ c.toNat ≤ 57
  ne : digS s ≠ []
  neg : s.take 1 = [45] → digS s = s.drop 1 ∧ (digS s).getD 0 0 ≠ 48
  pos : s.take 1 ≠ [45] → digS s = s ∧ (s.getD 0 0 = 48 → s = [48])
  val : Lib.parseIntB 64 s = .ok (numV s)
theorem num_s {s : List UInt8} (h : isNum s) : NumS s := by
  obtain ⟨n, hn, rfl⟩ := h
  have hl := decS_len n
  have hv := parse_dec hn
  have hw := numV_dec hn
  obtain ⟨h1, h2⟩ := digS_of hn
  have hne := dd_ne n.natAbs
  have hall := dd_all n.natAbs n.natAbs (Nat.le_refl _)
  have hs : decS n = if n < 0 then 45 :: Lib.decDigits n.natAbs else Lib.decDigits n.natAbs := by
    rw [decS_is hn.1 hn.2]
    unfold Lib.itoa
    split
    · rfl
    · rw [show n.toNat = n.natAbs by omega]
  have hd0 : (Lib.decDigits n.natAbs).getD 0 0 = 48 → n.natAbs = 0 := by
    intro h
    cases hd : Lib.decDigits n.natAbs with
    | nil => exact absurd hd hne
    | cons c r =>
      rw [hd] at h
      have : c = 48 := by simpa using h
      subst this
      exact dd_head n.natAbs n.natAbs (Nat.le_refl _) r hd
  refine ⟨?_, hl, by rw [h1]; exact hall, by rw [h1]; exact hne, fun h => ?_, fun h => ?_, by rw [hw]; exact hv⟩
  · rw [hs]
    split
    · simp
    · exact List.length_pos_iff.2 hne
  · by_cases hneg : n < 0
    · refine ⟨by unfold digS; rw [if_pos h], ?_⟩
      rw [h1]
      intro h3
      have := hd0 h3
      omega
    · rw [h2, if_neg hneg] at h
      cases hd : Lib.decDigits n.natAbs with
      | nil => exact absurd hd hne
      | cons c r =>
        rw [hd] at h
        have h45 : c = 45 := by simpa using h
        have := hall c (by rw [hd]; exact List.mem_cons_self)
        subst h45
        have h5 : (45 : UInt8).toNat = 45 := rfl
        omega
  · by_cases hneg : n < 0
    · rw [h2, if_pos hneg] at h
      exact absurd rfl h
    · refine ⟨by unfold digS; rw [if_neg h], fun h3 => ?_⟩
      rw [hs, if_neg hneg] at h3 ⊢
      have := hd0 h3
      rw [this]
      exact dd_small (by decide)
theorem take_all (s : List UInt8) : List.take ((s.length : Int).toNat - 1) (List.drop 1 s) = s.drop 1 := by
  rw [Int.toNat_natCast]
  exact List.take_of_length_le (by rw [List.length_drop]; exact Nat.le_refl _)
theorem byte48 (c : UInt8) : ((c.toNat : Int) == 48) = true → c = 48 := fun h => by
  have h : (c.toNat : Int) = 48 := eq_of_beq h
  have h2 : c.toNat = (48 : UInt8).toNat := by have : (48 : UInt8).toNat = 48 := rfl; omega
  exact UInt8.toNat_inj.1 h2
theorem nm_e_ok (s : List UInt8) (hs : isNum s) : Paid (entryX (F Z) (lookC l55) 400 Tryd.f55 b55 (nmF s) [.s s]) := by
  refine ⟨?_⟩
  rw [nm_e]
  obtain ⟨h1, h2, h3, h4, h5, h6, h7⟩ := num_s hs
  rw [take_all]
  have fin : ∀ t : List UInt8, t = digS s → ∃ s_1 : Nat, s = s ∧ t = digS s ∧ (0 : Int) = (s_1 : Int) ∧ s_1 ≤ (digS s).length ∧ True := fun t e => ⟨0, rfl, e, rfl, Nat.zero_le _, trivial⟩
  refine ⟨fun _ => ⟨⟨by omega, by omega, by omega⟩, fun h => ?_, fun h => ?_⟩, fun h => ?_⟩
  · have h : s.take 1 = [45] := by simpa using h
    obtain ⟨h8, h9⟩ := h5 h
    rw [← h8]
    have hpos := List.length_pos_iff.2 h4
    refine ⟨⟨by omega, by omega, by omega⟩, fun h => absurd (by simpa using h) h4, fun _ => ⟨⟨by omega, by omega⟩, fun h => absurd (byte48 _ h) h9, fun _ => fin _ rfl⟩⟩
  · have h : s.take 1 ≠ [45] := by simpa using h
    obtain ⟨h8, h9⟩ := h6 h
    refine ⟨fun h => ?_, fun _ => ⟨⟨by omega, by omega⟩, fun g => ⟨fun h => ?_, fun _ => fin _ h8.symm⟩, fun _ => fin _ h8.symm⟩⟩
    · have h : s = [] := by simpa using h
      rw [h] at h1
      simp at h1
    · rw [h9 (byte48 _ g)] at h
      simp at h
  · simp only [decide_eq_false_iff_not] at h
    omega
theorem nm_5_ok (s : List UInt8) (hs : isNum s) (k : Nat) (hk : k ≤ (digS s).length) : Paid (cutVC (F Z) (lookC l55) 400 Tryd.f55 b55 (nmF s) 5 (nmC s) k) := by
  refine ⟨?_⟩
  rw [nm_5]
  obtain ⟨h1, h2, h3, h4, h5, h6, h7⟩ := num_s hs
  have hd : (digS s).length ≤ s.length := by
    unfold digS
    split
    · rw [List.length_drop]; omega
    · exact Nat.le_refl _
  refine ⟨fun h => ?_, fun h => ?_⟩
  · simp only [decide_eq_true_eq] at h
    have hlt : k < (digS s).length := by omega
    have hc := h3 _ (List.getElem_mem hlt)
    have e : (digS s).getD (k : Int).toNat 0 = (digS s)[k] := by
      rw [Int.toNat_natCast, List.getD_eq_getElem?_getD, List.getElem?_eq_getElem hlt]; rfl
    rw [e]
    refine ⟨⟨by omega, h⟩, fun g => ?_, fun _ => ⟨⟨by omega, h⟩, fun g => ?_, fun _ => ⟨k + 1, rfl, rfl, ?_, hlt, by omega, trivial⟩⟩⟩
    · simp only [decide_eq_true_eq] at g; omega
    · simp only [decide_eq_true_eq] at g; omega
    · rw [wrap64 (by omega) (by omega)]; rfl
  · exact ⟨numV s, ⟨by omega, h7⟩, rfl, rfl, trivial⟩
theorem l55Ok : CtrOk (F Z).S (lookC l55) := lookC_ok fun p h => by
  have h : p ∈ [_] := h
  rw [List.mem_singleton] at h
  subst h
  exact pintOk
theorem nmOk : CtrOk1 (F Z).S 55 (mkCtr nmD) :=
  mkCtr_paid (fn := Tryd.f55) (body := b55) (ctr := lookC l55) codOk noExt hookLow l55Ok Tryd.func55 rfl rfl rfl nmD 400 (fun (x : List UInt8 × Unit) => [(5, nmC x.1)]) (show 1 ≤ Tryd.f55.ntmps by decide) (show Tryd.f55.ntmps ≤ 512 by decide) (by kernel_rfl) (fun _ _ => ⟨rfl, rfl⟩)
    (fun (x : List UInt8 × Unit) hp => nm_e_ok x.1 hp) (fun (x : List UInt8 × Unit) hp p hm s hI => by
      simp only [List.mem_singleton] at hm
      subst hm
      exact nm_5_ok x.1 hp s hI)
end Go.Proofs.YtbbbpnaghipfmaaDoor

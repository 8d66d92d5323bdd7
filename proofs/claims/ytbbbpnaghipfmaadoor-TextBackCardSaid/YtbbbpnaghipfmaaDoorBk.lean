/- TextBack: its run. -/
import Derived.Test.YtbbbpnaghipfmaaDoorBt
namespace Go.Proofs.YtbbbpnaghipfmaaDoor
open Go.RowKit Go.Am Go.Sy
set_option linter.unusedVariables false
set_option linter.unusedSimpArgs false
variable {Z : Xs}

theorem pa_e (Z : Xs) (p : List Ins) (s : List UInt8) : Go.Sy.Tree.holds (entryX (F Z) (lookC l13) 600 Tryd.f13 b13 (paF p s) [.s s]) = ( (decide ((↑s.length : Int) > 20000) = true → [] = p ∧ Stuck "le: a") ∧ (decide
 ((↑s.length : Int) > 20000) = false → s.length < 4294967281 ∧ ∃ (s_1 : PaS), [] = List.take s_1.j p ∧ splitL (10 : UInt8) s = splitL (10 : UInt8) s ∧ (↑(splitL (10 : UInt8) s).length : Int) = (↑(splitL (10 : UInt8)
 s).length : Int) ∧ (0 : Int) = (↑s_1.k : Int) ∧ (s_1.k ≤ (splitL (10 : UInt8) s).length ∧ s_1.j ≤ p.length ∧ List.filter (fun (l : List UInt8) => !l == []) (List.drop s_1.k (splitL (10 : UInt8) s)) = List.map lineS
 (List.drop s_1.j p)) ∧ True)) := by kernel_rfl
theorem pa_5 (Z : Xs) (p : List Ins) (s : List UInt8) (k j : Nat) : Go.Sy.Tree.holds (cutVC (F Z) (lookC l13) 600 Tryd.f13 b13 (paF p s) 5 (paC p s) ⟨k, j⟩) = ( (decide ((↑k : Int) < (↑(splitL (10 : UInt8) s).length :
 Int)) = true → ((0 : Int) ≤ (↑k : Int) ∧ (↑k : Int) < (↑(splitL (10 : UInt8) s).length : Int)) ∧ ((at3 (splitL (10 : UInt8) s) (↑k : Int) == []) = true → ∃ (s_1 : PaS), List.take j p = List.take s_1.j p ∧ splitL (10 :
 UInt8) s = splitL (10 : UInt8) s ∧ (↑(splitL (10 : UInt8) s).length : Int) = (↑(splitL (10 : UInt8) s).length : Int) ∧ IntKind.i64.wrap ((↑k : Int) + 1) = (↑s_1.k : Int) ∧ (s_1.k ≤ (splitL (10 : UInt8) s).length ∧ s_1.j
 ≤ p.length ∧ List.filter (fun (l : List UInt8) => !l == []) (List.drop s_1.k (splitL (10 : UInt8) s)) = List.map lineS (List.drop s_1.j p)) ∧ (splitL (10 : UInt8) s).length - s_1.k < (splitL (10 : UInt8) s).length - k ∧
 True) ∧ ((at3 (splitL (10 : UInt8) s) (↑k : Int) == []) = false → (decide ((↑(List.take j p).length : Int) ≥ (48 : Int)) = true → [] = p ∧ Stuck "le: a") ∧ (decide ((↑(List.take j p).length : Int) ≥ (48 : Int)) = false →
 ∃ (i : Ins), (Good i ∧ at3 (splitL (10 : UInt8) s) (↑k : Int) = lineS i) ∧ ((List.take j p).length + [Ins.mk i.op i.a i.b i.c i.n].length) * (F Z).S.P.bytesOf (29 : Nat) ≤ 140737488355328 ∧ ∃ (s_1 : PaS), List.take j p
 ++ [Ins.mk i.op i.a i.b i.c i.n] = List.take s_1.j p ∧ splitL (10 : UInt8) s = splitL (10 : UInt8) s ∧ (↑(splitL (10 : UInt8) s).length : Int) = (↑(splitL (10 : UInt8) s).length : Int) ∧ IntKind.i64.wrap ((↑k : Int) + 1)
 = (↑s_1.k : Int) ∧ (s_1.k ≤ (splitL (10 : UInt8) s).length ∧ s_1.j ≤ p.length ∧ List.filter (fun (l : List UInt8) => !l == []) (List.drop s_1.k (splitL (10 : UInt8) s)) = List.map lineS (List.drop s_1.j p)) ∧ (splitL (10
 : UInt8) s).length - s_1.k < (splitL (10 : UInt8) s).length - k ∧ True))) ∧ (decide ((↑k : Int) < (↑(splitL (10 : UInt8) s).length : Int)) = false → List.take j p = p ∧ constA Value.nilIface = AVal.nili ∧ True)) := by
 kernel_rfl
theorem sm_e (Z : Xs) (p : List Ins) : Go.Sy.Tree.holds (entryX (F Z) (lookC []) 600 Tryd.f14 b14 (smF p) [.tl (T := T) 2 p, .tl (T := T) 2 p]) = ( (((↑p.length : Int) != (↑p.length : Int)) = true → false = true ∧ True) ∧
 (((↑p.length : Int) != (↑p.length : Int)) = false → ∃ (s : Nat), p = p ∧ p = p ∧ (0 : Int) = (↑s : Int) ∧ s ≤ p.length ∧ True)) := by kernel_rfl
theorem sm_4 (Z : Xs) (p : List Ins) (k : Nat) : Go.Sy.Tree.holds (cutVC (F Z) (lookC []) 600 Tryd.f14 b14 (smF p) 4 (smC p) k) = ( (decide ((↑k : Int) < (↑p.length : Int)) = true → ((0 : Int) ≤ (↑k : Int) ∧ (↑k : Int) <
 (↑p.length : Int)) ∧ ((0 : Int) ≤ (↑k : Int) ∧ (↑k : Int) < (↑p.length : Int)) ∧ ((!((at2 p (↑k : Int)).op == (at2 p (↑k : Int)).op && ((at2 p (↑k : Int)).a == (at2 p (↑k : Int)).a && ((at2 p (↑k : Int)).b == (at2 p (↑k
 : Int)).b && ((at2 p (↑k : Int)).c == (at2 p (↑k : Int)).c && ((at2 p (↑k : Int)).n == (at2 p (↑k : Int)).n && true)))))) = true → false = true ∧ True) ∧ ((!((at2 p (↑k : Int)).op == (at2 p (↑k : Int)).op && ((at2 p (↑k
 : Int)).a == (at2 p (↑k : Int)).a && ((at2 p (↑k : Int)).b == (at2 p (↑k : Int)).b && ((at2 p (↑k : Int)).c == (at2 p (↑k : Int)).c && ((at2 p (↑k : Int)).n == (at2 p (↑k : Int)).n && true)))))) = false → ∃ (s : Nat), p
 = p ∧ p = p ∧ IntKind.i64.wrap ((↑k : Int) + 1) = (↑s : Int) ∧ s ≤ p.length ∧ p.length - s < p.length - k ∧ True)) ∧ (decide ((↑k : Int) < (↑p.length : Int)) = false → true = true ∧ True)) := by kernel_rfl
theorem bk_e (Z : Xs) (l : List Rw) (gaps : Bool) : Go.Sy.Tree.holds (entryX (F Z) (lookC (l4 l)) 600 Tryd.f4 b4 (bkF l gaps) [.tl (T := T) 5 l, .b gaps]) = ( (decide ((↑l.length : Int) > 40) = true → true = true ∧ True)
 ∧ (decide ((↑l.length : Int) > 40) = false → ∃ (s : Nat), l = l ∧ gaps = gaps ∧ (0 : Int) = (↑s : Int) ∧ (s ≤ l.length ∧ l.length ≤ 40 ∧ ∀ (r : Rw), r ∈ List.take s l → r.raw = false) ∧ True)) := by kernel_rfl
theorem bk_4 (Z : Xs) (l : List Rw) (gaps : Bool) (k : Nat) : Go.Sy.Tree.holds (cutVC (F Z) (lookC (l4 l)) 600 Tryd.f4 b4 (bkF l gaps) 4 (bkC4 l gaps) k) = ( (decide ((↑k : Int) < (↑l.length : Int)) = true → ((0 : Int) ≤
 (↑k : Int) ∧ (↑k : Int) < (↑l.length : Int)) ∧ ((at5 l (↑k : Int)).raw = true → true = true ∧ True) ∧ ((at5 l (↑k : Int)).raw = false → ∃ (s : Nat), l = l ∧ gaps = gaps ∧ IntKind.i64.wrap ((↑k : Int) + 1) = (↑s : Int) ∧
 (s ≤ l.length ∧ l.length ≤ 40 ∧ ∀ (r : Rw), r ∈ List.take s l → r.raw = false) ∧ (100000 : Nat) + (l.length - s) < 100000 + (l.length - k) ∧ True)) ∧ (decide ((↑k : Int) < (↑l.length : Int)) = false → rowsOk l ∧ ((progL
 l).length ≤ 1000 ∧ ∀ (x : T (2 : Nat)), x ∈ progL l → okI x.n) ∧ ((!(printR (progL l)).snd) = true → false = true ∧ True) ∧ ((!(printR (progL l)).snd) = false → (gaps = true → ∃ (s : Nat), progL l = progL l ∧ (printR
 (progL l)).fst = (printR (progL l)).fst ∧ [(10 : UInt8)] = gapS (List.take s (printR (progL l)).fst) ∧ (0 : Int) = (↑s : Int) ∧ (s ≤ (printR (progL l)).fst.length ∧ cleanL l) ∧ (printR (progL l)).fst.length - s < 100000
 + (l.length - k) ∧ True) ∧ (gaps = false → (paD (progL l)).pre ((printR (progL l)).fst, ()) ∧ smD.pre (progL l, progL l, ()) ∧ true = true ∧ True)))) := by kernel_rfl
theorem bk_15 (Z : Xs) (l : List Rw) (gaps : Bool) (k : Nat) : Go.Sy.Tree.holds (cutVC (F Z) (lookC (l4 l)) 600 Tryd.f4 b4 (bkF l gaps) 15 (bkC15 l) k) = ( (decide ((↑k : Int) < (↑(printR (progL l)).fst.length : Int)) =
 true → ((0 : Int) ≤ (↑k : Int) ∧ (↑k : Int) ≤ IntKind.i64.wrap ((↑k : Int) + 1) ∧ IntKind.i64.wrap ((↑k : Int) + 1) ≤ (↑(printR (progL l)).fst.length : Int)) ∧ (↑((gapS (List.take k (printR (progL l)).fst)).length +
 (List.take ((IntKind.i64.wrap ((↑k : Int) + 1)).toNat - (↑k : Int).toNat) (List.drop (↑k : Int).toNat (printR (progL l)).fst)).length) : Int) ≤ 9223372036854775807 ∧ ((0 : Int) ≤ (↑k : Int) ∧ (↑k : Int) < (↑(printR
 (progL l)).fst.length : Int)) ∧ (((↑((printR (progL l)).fst.getD (↑k : Int).toNat (0 : UInt8)).toNat : Int) == 10) = true → (↑((gapS (List.take k (printR (progL l)).fst) ++ List.take ((IntKind.i64.wrap ((↑k : Int) +
 1)).toNat - (↑k : Int).toNat) (List.drop (↑k : Int).toNat (printR (progL l)).fst)).length + [(10 : UInt8)].length) : Int) ≤ 9223372036854775807 ∧ ∃ (s : Nat), progL l = progL l ∧ (printR (progL l)).fst = (printR (progL
 l)).fst ∧ gapS (List.take k (printR (progL l)).fst) ++ List.take ((IntKind.i64.wrap ((↑k : Int) + 1)).toNat - (↑k : Int).toNat) (List.drop (↑k : Int).toNat (printR (progL l)).fst) ++ [(10 : UInt8)] = gapS (List.take s
 (printR (progL l)).fst) ∧ IntKind.i64.wrap ((↑k : Int) + 1) = (↑s : Int) ∧ (s ≤ (printR (progL l)).fst.length ∧ cleanL l) ∧ (printR (progL l)).fst.length - s < (printR (progL l)).fst.length - k ∧ True) ∧ (((↑((printR
 (progL l)).fst.getD (↑k : Int).toNat (0 : UInt8)).toNat : Int) == 10) = false → ∃ (s : Nat), progL l = progL l ∧ (printR (progL l)).fst = (printR (progL l)).fst ∧ gapS (List.take k (printR (progL l)).fst) ++ List.take
 ((IntKind.i64.wrap ((↑k : Int) + 1)).toNat - (↑k : Int).toNat) (List.drop (↑k : Int).toNat (printR (progL l)).fst) = gapS (List.take s (printR (progL l)).fst) ∧ IntKind.i64.wrap ((↑k : Int) + 1) = (↑s : Int) ∧ (s ≤
 (printR (progL l)).fst.length ∧ cleanL l) ∧ (printR (progL l)).fst.length - s < (printR (progL l)).fst.length - k ∧ True)) ∧ (decide ((↑k : Int) < (↑(printR (progL l)).fst.length : Int)) = false → (paD (progL l)).pre
 (gapS (List.take k (printR (progL l)).fst), ()) ∧ smD.pre (progL l, progL l, ()) ∧ true = true ∧ True)) := by kernel_rfl

/-! ### Parse -/
theorem pa_e_ok (p : List Ins) (s : List UInt8) (h : s.length ≤ 20000 ∧ textOf p s) : Paid (entryX (F Z) (lookC l13) 600 Tryd.f13 b13 (paF p s) [.s s]) := by
  refine ⟨?_⟩
  rw [pa_e]
  refine ⟨fun g => ?_, fun _ => ⟨by omega, ⟨0, 0⟩, rfl, rfl, rfl, rfl, ⟨Nat.zero_le _, Nat.zero_le _, h.2⟩, trivial⟩⟩
  simp only [decide_eq_true_eq] at g
  omega
theorem split_len (c : UInt8) : ∀ s : List UInt8, (splitL c s).length ≤ s.length + 1
  | [] => Nat.le_refl _
  | b :: s => by
    have ih := split_len c s
    unfold splitL
    split
    · simp only [List.length_cons]; omega
    · split
      · simp only [List.length_cons, List.length_nil]; omega
      · rename_i x r hx
        rw [hx] at ih
        simp only [List.length_cons] at ih ⊢
        omega
theorem pa_5_ok (p : List Ins) (hp : goodP p) (s : List UInt8) (hs : s.length ≤ 20000) (k j : Nat) (hk : k ≤ (splitL 10 s).length) (hj : j ≤ p.length) (hf : ((splitL 10 s).drop k).filter (fun l => !(l == [])) = (p.drop j).map lineS) :
    Paid (cutVC (F Z) (lookC l13) 600 Tryd.f13 b13 (paF p s) 5 (paC p s) ⟨k, j⟩) := by
  refine ⟨?_⟩
  rw [pa_5]
  have hL := split_len 10 s
  refine ⟨fun h => ?_, fun h => ?_⟩
  · simp only [decide_eq_true_eq] at h
    have hlt : k < (splitL 10 s).length := by omega
    rw [at3_get hlt]
    rw [List.drop_eq_getElem_cons hlt] at hf
    have hw : IntKind.i64.wrap ((k : Int) + 1) = ((k + 1 : Nat) : Int) := by rw [wrap64 (by omega) (by omega)]; rfl
    refine ⟨⟨by omega, h⟩, fun g => ?_, fun g => ?_⟩
    · have g : (splitL 10 s)[k] = [] := by simpa using g
      rw [List.filter_cons_of_neg (by rw [g]; simp)] at hf
      exact ⟨⟨k + 1, j⟩, rfl, rfl, rfl, hw, ⟨by show k + 1 ≤ _; omega, hj, hf⟩, by show _ - (k + 1) < _ - k; omega, trivial⟩
    · have g : (splitL 10 s)[k] ≠ [] := by simpa using g
      rw [List.filter_cons_of_pos (by simpa using g)] at hf
      have hjl : j < p.length := by
        rcases Nat.lt_or_ge j p.length with h1 | h1
        · exact h1
        · rw [List.drop_eq_nil_of_le h1] at hf; cases hf
      rw [List.drop_eq_getElem_cons hjl, List.map_cons] at hf
      obtain ⟨h1, h2⟩ := List.cons.inj hf
      have hgood := hp.1 _ (List.getElem_mem hjl)
      have hlen : (p.take j).length = j := by rw [List.length_take]; omega
      refine ⟨fun g2 => ?_, fun _ => ⟨p[j], ⟨hgood, h1⟩, ?_, ⟨k + 1, j + 1⟩, ?_, rfl, rfl, hw, ⟨by show k + 1 ≤ _; omega, by show j + 1 ≤ _; omega, h2⟩, by show _ - (k + 1) < _ - k; omega, trivial⟩⟩
      · have := hp.2
        simp only [decide_eq_true_eq] at g2
        omega
      · rw [bytes29, hlen]
        have := hp.2
        simp only [List.length_cons, List.length_nil]
        omega
      · show p.take j ++ [p[j]] = p.take (j + 1)
        exact (List.take_succ_eq_append_getElem hjl).symm
  · simp only [decide_eq_false_iff_not] at h
    have hkk : k = (splitL 10 s).length := by omega
    rw [hkk, List.drop_length] at hf
    have hjj : p.length ≤ j := by
      rcases Nat.lt_or_ge j p.length with h1 | h1
      · rw [List.drop_eq_getElem_cons h1] at hf; cases hf
      · exact h1
    exact ⟨List.take_of_length_le hjj, rfl, trivial⟩
theorem l13Ok : CtrOk (F Z).S (lookC l13) := lookC_ok fun p h => by
  simp only [l13, List.mem_cons, List.not_mem_nil, or_false] at h
  rcases h with rfl | rfl
  · exact readOk
  · exact splitOk
theorem paOk (p : List Ins) : CtrOk1 (F Z).S 13 (mkCtrT (C := cod) [.str] (paD p).pre 2 (fun _ => p) .nili) :=
  mkCtrT_paid (fn := Tryd.f13) (body := b13) (ctr := lookC l13) codOk noExt hookLow l13Ok Tryd.func13 rfl (by kernel_rfl) (by kernel_rfl) [.str] (paD p).pre 2 (fun _ => p) .nili (fun _ _ => by unfold frz; rfl) true 0 plain2 600 (fun (x : List UInt8 × Unit) => [(5, paC p x.1)]) (show 1 ≤ Tryd.f13.ntmps by decide) (show Tryd.f13.ntmps ≤ 512 by decide) (by kernel_rfl)
    (fun (x : List UInt8 × Unit) h => pa_e_ok p x.1 h.2) (fun (x : List UInt8 × Unit) h q hm s hI => by
      simp only [List.mem_singleton] at hm
      subst hm
      exact pa_5_ok p h.1 x.1 h.2.1 s.k s.j hI.1 hI.2.1 hI.2.2)

/-! ### Same -/
theorem sm_e_ok (p : List Ins) : Paid (entryX (F Z) (lookC []) 600 Tryd.f14 b14 (smF p) [.tl (T := T) 2 p, .tl (T := T) 2 p]) := by
  refine ⟨?_⟩
  rw [sm_e]
  exact ⟨fun h => by simp at h, fun _ => ⟨0, rfl, rfl, rfl, Nat.zero_le _, trivial⟩⟩
theorem sm_4_ok (p : List Ins) (hl : p.length ≤ 1000) (k : Nat) (hk : k ≤ p.length) : Paid (cutVC (F Z) (lookC []) 600 Tryd.f14 b14 (smF p) 4 (smC p) k) := by
  refine ⟨?_⟩
  rw [sm_4]
  refine ⟨fun h => ?_, fun _ => ⟨rfl, trivial⟩⟩
  simp only [decide_eq_true_eq] at h
  refine ⟨⟨by omega, h⟩, ⟨by omega, h⟩, fun g => by simp at g, fun _ => ⟨k + 1, rfl, rfl, ?_, by omega, by omega, trivial⟩⟩
  rw [wrap64 (by omega) (by omega)]; rfl
theorem smOk : CtrOk1 (F Z).S 14 (mkCtr smD) :=
  mkCtr_paid (fn := Tryd.f14) (body := b14) (ctr := lookC []) codOk noExt hookLow noneOk Tryd.func14 rfl rfl rfl smD 600 (fun (x : List Ins × List Ins × Unit) => [(4, smC x.1)]) (show 2 ≤ Tryd.f14.ntmps by decide) (show Tryd.f14.ntmps ≤ 512 by decide) (by kernel_rfl) (fun _ _ => ⟨rfl, rfl⟩)
    (fun (x : List Ins × List Ins × Unit) h => by
      obtain ⟨a, b, u⟩ := x
      obtain ⟨h1, h2⟩ := h
      obtain rfl : b = a := h1
      exact sm_e_ok b) (fun (x : List Ins × List Ins × Unit) h q hm s hI => by
      simp only [List.mem_singleton] at hm
      subst hm
      exact sm_4_ok x.1 h.2 s hI)

/-! ### The law -/
theorem bk_e_ok (l : List Rw) (gaps : Bool) : Paid (entryX (F Z) (lookC (l4 l)) 600 Tryd.f4 b4 (bkF l gaps) [.tl (T := T) 5 l, .b gaps]) := by
  refine ⟨?_⟩
  rw [bk_e]
  refine ⟨fun _ => ⟨rfl, trivial⟩, fun h => ?_⟩
  simp only [decide_eq_false_iff_not] at h
  exact ⟨0, rfl, rfl, rfl, ⟨Nat.zero_le _, by omega, fun r hr => by simp at hr⟩, trivial⟩
theorem bk_4_ok (l : List Rw) (hl : ∀ r ∈ l, okI r.n) (gaps : Bool) (k : Nat) (hk : k ≤ l.length) (h40 : l.length ≤ 40) (hr : ∀ r ∈ l.take k, r.raw = false) : Paid (cutVC (F Z) (lookC (l4 l)) 600 Tryd.f4 b4 (bkF l gaps) 4 (bkC4 l gaps) k) := by
  refine ⟨?_⟩
  rw [bk_4]
  refine ⟨fun h => ?_, fun h => ?_⟩
  · simp only [decide_eq_true_eq] at h
    have hlt : k < l.length := by omega
    rw [at5_get hlt]
    refine ⟨⟨by omega, h⟩, fun _ => ⟨rfl, trivial⟩, fun g => ⟨k + 1, rfl, rfl, ?_, ⟨by omega, h40, ?_⟩, by omega, trivial⟩⟩
    · rw [wrap64 (by omega) (by omega)]; rfl
    · exact all_take (p := fun r => r.raw = false) hr hlt g
  · simp only [decide_eq_false_iff_not] at h
    have hkk : k = l.length := by omega
    rw [hkk, List.take_length] at hr
    have hc : cleanL l := ⟨h40, hr⟩
    have hg := good_prog hl hc
    have hpl : (progL l).length ≤ 40 := by rw [progL, List.length_map]; exact h40
    rw [print_good hg]
    have htl := text_len (progL l) hg.1
    refine ⟨by show l.length ≤ 1000; omega, ⟨by omega, fun x hx => (hg.1 x hx).2⟩, fun g => by simp at g, fun _ => ⟨fun _ => ⟨0, rfl, rfl, rfl, rfl, ⟨Nat.zero_le _, hc⟩, ?_, trivial⟩, fun _ => ⟨pa_pre hg hg.1 hpl, ⟨rfl, by show (progL l).length ≤ 1000; omega⟩, rfl, trivial⟩⟩⟩
    show (textL (progL l)).length - 0 < _
    omega
theorem take_one {s : List UInt8} {k : Nat} (h : k < s.length) : List.take 1 (List.drop k s) = [s[k]] := by
  rw [List.drop_eq_getElem_cons h]
  rfl
theorem gap_step {s : List UInt8} {k : Nat} (h : k < s.length) : gapS (s.take (k + 1)) = gapS (s.take k) ++ gapB s[k] := by
  rw [List.take_succ_eq_append_getElem h]
  unfold gapS
  rw [List.flatMap_append, List.flatMap_cons, List.flatMap_nil, List.append_nil, List.cons_append]
theorem bk_15_ok (l : List Rw) (hl : ∀ r ∈ l, okI r.n) (gaps : Bool) (k : Nat) (hk : k ≤ (printR (progL l)).1.length) (hc : cleanL l) : Paid (cutVC (F Z) (lookC (l4 l)) 600 Tryd.f4 b4 (bkF l gaps) 15 (bkC15 l) k) := by
  refine ⟨?_⟩
  rw [bk_15]
  have hg := good_prog hl hc
  have hpl : (progL l).length ≤ 40 := by rw [progL, List.length_map]; exact hc.1
  have htl := text_len (progL l) hg.1
  rw [print_good hg] at hk ⊢
  dsimp only at hk ⊢
  have hpg := pa_gap hg hg.1 hpl
  generalize textL (progL l) = s at *
  refine ⟨fun h => ?_, fun h => ?_⟩
  · simp only [decide_eq_true_eq] at h
    have hlt : k < s.length := by omega
    have hw : IntKind.i64.wrap ((k : Int) + 1) = ((k + 1 : Nat) : Int) := by rw [wrap64 (by omega) (by omega)]; rfl
    have hgl : (gapS (s.take k)).length ≤ 20000 := by
      unfold gapS
      have h1 := gap_len (s.take k)
      have h2 : (s.take k).length ≤ s.length := by rw [List.length_take]; omega
      rw [List.length_cons]
      omega
    have ek : ((k + 1 : Nat) : Int).toNat - (k : Int).toNat = 1 := by omega
    have eg : s.getD (k : Int).toNat 0 = s[k] := by
      rw [Int.toNat_natCast, List.getD_eq_getElem?_getD, List.getElem?_eq_getElem hlt]; rfl
    rw [hw, ek, Int.toNat_natCast, take_one hlt]
    rw [Int.toNat_natCast] at eg
    rw [eg]
    refine ⟨⟨by omega, by omega, by omega⟩, ?_, ⟨by omega, h⟩, fun g => ⟨?_, k + 1, rfl, rfl, ?_, rfl, ⟨by omega, hc⟩, by omega, trivial⟩, fun g => ⟨k + 1, rfl, rfl, ?_, rfl, ⟨by omega, hc⟩, by omega, trivial⟩⟩
    · simp only [List.length_cons, List.length_nil]; omega
    · simp only [List.length_append, List.length_cons, List.length_nil]; omega
    · have e10 : s[k] = 10 := by
        have g : (s[k].toNat : Int) = 10 := eq_of_beq g
        have g2 : s[k].toNat = (10 : UInt8).toNat := by have : (10 : UInt8).toNat = 10 := rfl; omega
        exact UInt8.toNat_inj.1 g2
      rw [gap_step hlt, gapB, if_pos e10, e10, List.append_assoc]
      rfl
    · have e10 : ¬ s[k] = 10 := by
        intro e
        rw [e] at g
        exact absurd g (by decide)
      rw [gap_step hlt, gapB, if_neg e10]
  · simp only [decide_eq_false_iff_not] at h
    have hkk : k = s.length := by omega
    rw [hkk, List.take_length]
    exact ⟨hpg, ⟨rfl, by show (progL l).length ≤ 1000; omega⟩, rfl, trivial⟩
theorem l4Ok (l : List Rw) : CtrOk (F prXs).S (lookC (l4 l)) := lookC_ok fun p h => by
  simp only [l4, List.mem_cons, List.not_mem_nil, or_false] at h
  rcases h with rfl | rfl | rfl | rfl | rfl
  · exact tellOk
  · exact progOk
  · exact printOk
  · exact paOk _
  · exact smOk
set_option maxRecDepth 10000 in
theorem back_run (l : List Rw) (hl : ∀ r ∈ l, okI r.n) (gaps : Bool) {av : List AVal} (hA : Ers (C := cod) (away []) [.tl (T := T) 5 l, .b gaps] av) : ∃ n H', runA (F prXs).S n 0 4 av [] = some (.bool true, H') :=
  law_paid (F := F prXs) (fn := Tryd.f4) (body := b4) (args := [.tl (T := T) 5 l, .b gaps]) codOk noExt hookLow (l4Ok l) Tryd.func4 rfl (by kernel_rfl) (by kernel_rfl) 600 [(4, bkC4 l gaps), (15, bkC15 l)] (show 2 ≤ Tryd.f4.ntmps by decide) (show Tryd.f4.ntmps ≤ 512 by decide) (by kernel_rfl)
    (bk_e_ok l gaps) (fun p hm s hI => by
      simp only [List.mem_cons, List.not_mem_nil, or_false] at hm
      rcases hm with rfl | rfl
      · exact bk_4_ok l hl gaps s hI.1 hI.2.1 hI.2.2
      · exact bk_15_ok l hl gaps s hI.1 hI.2) hA
end Go.Proofs.YtbbbpnaghipfmaaDoor

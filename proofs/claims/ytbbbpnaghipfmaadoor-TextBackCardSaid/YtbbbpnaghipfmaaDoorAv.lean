/- TextAsks: its run. -/
import Derived.Test.YtbbbpnaghipfmaaDoorAk
namespace Go.Proofs.YtbbbpnaghipfmaaDoor
open Go.RowKit Go.Am Go.Sy
set_option linter.unusedVariables false
set_option linter.unusedSimpArgs false
variable {Z : Xs}

theorem pg_e (Z : Xs) (l : List Rw) : Go.Sy.Tree.holds (entryX (F Z) (lookC l8) 400 Tryd.f8 b8 ⟨[(3, pgC l)], .R 0, [.rows 2 (progL l) true 0]⟩ [.tl (T := T) 5 l]) = ( ∃ (s : Nat), l = l ∧ [] = progL (List.take s l) ∧ (0
 : Int) = (↑s : Int) ∧ s ≤ l.length ∧ True) := by kernel_rfl
theorem pg_3 (Z : Xs) (l : List Rw) (k : Nat) : Go.Sy.Tree.holds (cutVC (F Z) (lookC l8) 400 Tryd.f8 b8 ⟨[(3, pgC l)], .R 0, [.rows 2 (progL l) true 0]⟩ 3 (pgC l) k) = ( (decide ((↑k : Int) < (↑l.length : Int)) = true →
 ((0 : Int) ≤ (↑k : Int) ∧ (↑k : Int) < (↑l.length : Int)) ∧ ((0 : Int) ≤ (↑k : Int) ∧ (↑k : Int) < (↑l.length : Int)) ∧ ((0 : Int) ≤ (↑k : Int) ∧ (↑k : Int) < (↑l.length : Int)) ∧ inD.pre (K4.mk (at5 l (↑k : Int)).k0
 (at5 l (↑k : Int)).k1 (at5 l (↑k : Int)).k2 (at5 l (↑k : Int)).k3, (at5 l (↑k : Int)).n, (at5 l (↑k : Int)).raw, ()) ∧ ((progL (List.take k l)).length + [Ins.mk (insF (K4.mk (at5 l (↑k : Int)).k0 (at5 l (↑k : Int)).k1
 (at5 l (↑k : Int)).k2 (at5 l (↑k : Int)).k3) (at5 l (↑k : Int)).n (at5 l (↑k : Int)).raw).op (insF (K4.mk (at5 l (↑k : Int)).k0 (at5 l (↑k : Int)).k1 (at5 l (↑k : Int)).k2 (at5 l (↑k : Int)).k3) (at5 l (↑k : Int)).n (at5
 l (↑k : Int)).raw).a (insF (K4.mk (at5 l (↑k : Int)).k0 (at5 l (↑k : Int)).k1 (at5 l (↑k : Int)).k2 (at5 l (↑k : Int)).k3) (at5 l (↑k : Int)).n (at5 l (↑k : Int)).raw).b (insF (K4.mk (at5 l (↑k : Int)).k0 (at5 l (↑k :
 Int)).k1 (at5 l (↑k : Int)).k2 (at5 l (↑k : Int)).k3) (at5 l (↑k : Int)).n (at5 l (↑k : Int)).raw).c (insF (K4.mk (at5 l (↑k : Int)).k0 (at5 l (↑k : Int)).k1 (at5 l (↑k : Int)).k2 (at5 l (↑k : Int)).k3) (at5 l (↑k :
 Int)).n (at5 l (↑k : Int)).raw).n].length) * (F Z).S.P.bytesOf (29 : Nat) ≤ 140737488355328 ∧ ∃ (s : Nat), l = l ∧ progL (List.take k l) ++ [Ins.mk (insF (K4.mk (at5 l (↑k : Int)).k0 (at5 l (↑k : Int)).k1 (at5 l (↑k :
 Int)).k2 (at5 l (↑k : Int)).k3) (at5 l (↑k : Int)).n (at5 l (↑k : Int)).raw).op (insF (K4.mk (at5 l (↑k : Int)).k0 (at5 l (↑k : Int)).k1 (at5 l (↑k : Int)).k2 (at5 l (↑k : Int)).k3) (at5 l (↑k : Int)).n (at5 l (↑k :
 Int)).raw).a (insF (K4.mk (at5 l (↑k : Int)).k0 (at5 l (↑k : Int)).k1 (at5 l (↑k : Int)).k2 (at5 l (↑k : Int)).k3) (at5 l (↑k : Int)).n (at5 l (↑k : Int)).raw).b (insF (K4.mk (at5 l (↑k : Int)).k0 (at5 l (↑k : Int)).k1
 (at5 l (↑k : Int)).k2 (at5 l (↑k : Int)).k3) (at5 l (↑k : Int)).n (at5 l (↑k : Int)).raw).c (insF (K4.mk (at5 l (↑k : Int)).k0 (at5 l (↑k : Int)).k1 (at5 l (↑k : Int)).k2 (at5 l (↑k : Int)).k3) (at5 l (↑k : Int)).n (at5
 l (↑k : Int)).raw).n] = progL (List.take s l) ∧ IntKind.i64.wrap ((↑k : Int) + 1) = (↑s : Int) ∧ s ≤ l.length ∧ l.length - s < l.length - k ∧ True) ∧ (decide ((↑k : Int) < (↑l.length : Int)) = false → progL (List.take k
 l) = progL l ∧ True)) := by kernel_rfl
theorem rp_e (Z : Xs) (p : List Ins) : Go.Sy.Tree.holds (entryX (F Z) (lookC l12) 400 Tryd.f12 b12 (rpF p) [.tl (T := T) 2 p]) = ( ∃ (s : RpS), p = p ∧ [] = s.acc ∧ (0 : Int) = (↑s.k : Int) ∧ (s.k ≤ p.length ∧ printGo
 (List.drop s.k p) s.acc = printR p ∧ s.acc.length ≤ 201 * s.k) ∧ True) := by kernel_rfl
theorem rp_3 (Z : Xs) (p : List Ins) (k : Nat) (acc : List UInt8) : Go.Sy.Tree.holds (cutVC (F Z) (lookC l12) 400 Tryd.f12 b12 (rpF p) 3 (rpC p) ⟨k, acc⟩) = ( (decide ((↑k : Int) < (↑p.length : Int)) = true → ((0 : Int) ≤
 (↑k : Int) ∧ (↑k : Int) < (↑p.length : Int)) ∧ lnD.pre (Ins.mk (at2 p (↑k : Int)).op (at2 p (↑k : Int)).a (at2 p (↑k : Int)).b (at2 p (↑k : Int)).c (at2 p (↑k : Int)).n, ()) ∧ ((!mayB (Ins.mk (at2 p (↑k : Int)).op (at2 p
 (↑k : Int)).a (at2 p (↑k : Int)).b (at2 p (↑k : Int)).c (at2 p (↑k : Int)).n)) = true → [] = (printR p).fst ∧ false = (printR p).snd ∧ True) ∧ ((!mayB (Ins.mk (at2 p (↑k : Int)).op (at2 p (↑k : Int)).a (at2 p (↑k :
 Int)).b (at2 p (↑k : Int)).c (at2 p (↑k : Int)).n)) = false → (↑((lineR (Ins.mk (at2 p (↑k : Int)).op (at2 p (↑k : Int)).a (at2 p (↑k : Int)).b (at2 p (↑k : Int)).c (at2 p (↑k : Int)).n)).length + [(10 : UInt8)].length)
 : Int) ≤ 9223372036854775807 ∧ (↑(acc.length + (lineR (Ins.mk (at2 p (↑k : Int)).op (at2 p (↑k : Int)).a (at2 p (↑k : Int)).b (at2 p (↑k : Int)).c (at2 p (↑k : Int)).n) ++ [(10 : UInt8)]).length) : Int) ≤
 9223372036854775807 ∧ ∃ (s : RpS), p = p ∧ acc ++ (lineR (Ins.mk (at2 p (↑k : Int)).op (at2 p (↑k : Int)).a (at2 p (↑k : Int)).b (at2 p (↑k : Int)).c (at2 p (↑k : Int)).n) ++ [(10 : UInt8)]) = s.acc ∧ IntKind.i64.wrap
 ((↑k : Int) + 1) = (↑s.k : Int) ∧ (s.k ≤ p.length ∧ printGo (List.drop s.k p) s.acc = printR p ∧ s.acc.length ≤ 201 * s.k) ∧ p.length - s.k < p.length - k ∧ True)) ∧ (decide ((↑k : Int) < (↑p.length : Int)) = false → acc
 = (printR p).fst ∧ true = (printR p).snd ∧ True)) := by kernel_rfl
theorem ak_e (Z : Xs) (l : List Rw) : Go.Sy.Tree.holds (entryX (F Z) (lookC l3) 400 Tryd.f3 b3 ⟨[(5, akC l)], .b true, []⟩ [.tl (T := T) 5 l]) = ( (decide ((↑l.length : Int) > 20) = true → true = true ∧ True) ∧ (decide
 ((↑l.length : Int) > 20) = false → rowsOk l ∧ ∃ (s : Nat), progL l = progL l ∧ (0 : Int) = (↑s : Int) ∧ (s ≤ (progL l).length ∧ insOk (progL l)) ∧ True)) := by kernel_rfl
theorem ak_5 (Z : Xs) (l : List Rw) (k : Nat) : Go.Sy.Tree.holds (cutVC (F Z) (lookC l3) 400 Tryd.f3 b3 ⟨[(5, akC l)], .b true, []⟩ 5 (akC l) k) = ( (decide ((↑k : Int) < (↑(progL l).length : Int)) = true → ((0 : Int) ≤
 (↑k : Int) ∧ (↑k : Int) < (↑(progL l).length : Int)) ∧ lnD.pre (Ins.mk (at2 (progL l) (↑k : Int)).op (at2 (progL l) (↑k : Int)).a (at2 (progL l) (↑k : Int)).b (at2 (progL l) (↑k : Int)).c (at2 (progL l) (↑k : Int)).n,
 ()) ∧ ((0 : Int) ≤ (↑k : Int) ∧ (↑k : Int) < (↑(progL l).length : Int)) ∧ lnD.pre (Ins.mk (at2 (progL l) (↑k : Int)).op (at2 (progL l) (↑k : Int)).a (at2 (progL l) (↑k : Int)).b (at2 (progL l) (↑k : Int)).c (at2 (progL
 l) (↑k : Int)).n, ()) ∧ ((!lineR (Ins.mk (at2 (progL l) (↑k : Int)).op (at2 (progL l) (↑k : Int)).a (at2 (progL l) (↑k : Int)).b (at2 (progL l) (↑k : Int)).c (at2 (progL l) (↑k : Int)).n) == lineR (Ins.mk (at2 (progL l)
 (↑k : Int)).op (at2 (progL l) (↑k : Int)).a (at2 (progL l) (↑k : Int)).b (at2 (progL l) (↑k : Int)).c (at2 (progL l) (↑k : Int)).n)) = true → false = true ∧ True) ∧ ((!lineR (Ins.mk (at2 (progL l) (↑k : Int)).op (at2
 (progL l) (↑k : Int)).a (at2 (progL l) (↑k : Int)).b (at2 (progL l) (↑k : Int)).c (at2 (progL l) (↑k : Int)).n) == lineR (Ins.mk (at2 (progL l) (↑k : Int)).op (at2 (progL l) (↑k : Int)).a (at2 (progL l) (↑k : Int)).b
 (at2 (progL l) (↑k : Int)).c (at2 (progL l) (↑k : Int)).n)) = false → ((!mayB (Ins.mk (at2 (progL l) (↑k : Int)).op (at2 (progL l) (↑k : Int)).a (at2 (progL l) (↑k : Int)).b (at2 (progL l) (↑k : Int)).c (at2 (progL l)
 (↑k : Int)).n) == mayB (Ins.mk (at2 (progL l) (↑k : Int)).op (at2 (progL l) (↑k : Int)).a (at2 (progL l) (↑k : Int)).b (at2 (progL l) (↑k : Int)).c (at2 (progL l) (↑k : Int)).n)) = true → false = true ∧ True) ∧ ((!mayB
 (Ins.mk (at2 (progL l) (↑k : Int)).op (at2 (progL l) (↑k : Int)).a (at2 (progL l) (↑k : Int)).b (at2 (progL l) (↑k : Int)).c (at2 (progL l) (↑k : Int)).n) == mayB (Ins.mk (at2 (progL l) (↑k : Int)).op (at2 (progL l) (↑k
 : Int)).a (at2 (progL l) (↑k : Int)).b (at2 (progL l) (↑k : Int)).c (at2 (progL l) (↑k : Int)).n)) = false → ∃ (s : Nat), progL l = progL l ∧ IntKind.i64.wrap ((↑k : Int) + 1) = (↑s : Int) ∧ (s ≤ (progL l).length ∧ insOk
 (progL l)) ∧ (progL l).length - s < (progL l).length - k ∧ True))) ∧ (decide ((↑k : Int) < (↑(progL l).length : Int)) = false → ((progL l).length ≤ 1000 ∧ ∀ (x : T (2 : Nat)), x ∈ progL l → okI x.n) ∧ rpD.pre (progL l,
 ()) ∧ (((printR (progL l)).fst == (printR (progL l)).fst) = true → ((printR (progL l)).snd == (printR (progL l)).snd) = true ∧ True) ∧ (((printR (progL l)).fst == (printR (progL l)).fst) = false → false = true ∧ True)))
 := by kernel_rfl

/-! ### Programs out of rows -/
theorem bytes29 : (F Z).S.P.bytesOf 29 = 40 := by kernel_rfl
theorem pg_e_ok (l : List Rw) : Paid (entryX (F Z) (lookC l8) 400 Tryd.f8 b8 ⟨[(3, pgC l)], .R 0, [.rows 2 (progL l) true 0]⟩ [.tl (T := T) 5 l]) := by
  refine ⟨?_⟩
  rw [pg_e]
  exact ⟨0, rfl, rfl, rfl, Nat.zero_le _, trivial⟩
theorem pg_3_ok (l : List Rw) (k : Nat) (hl : l.length ≤ 1000) (hk : k ≤ l.length) : Paid (cutVC (F Z) (lookC l8) 400 Tryd.f8 b8 ⟨[(3, pgC l)], .R 0, [.rows 2 (progL l) true 0]⟩ 3 (pgC l) k) := by
  refine ⟨?_⟩
  rw [pg_3]
  refine ⟨fun h => ?_, fun h => ?_⟩
  · simp only [decide_eq_true_eq] at h
    have hlt : k < l.length := by omega
    have h3 : (0 : Int) ≤ (k : Int) ∧ (k : Int) < (l.length : Int) := ⟨by omega, h⟩
    rw [bytes29, at5_get hlt]
    refine ⟨h3, h3, h3, trivial, ?_, k + 1, rfl, ?_, ?_, by omega, by omega, trivial⟩
    · simp only [progL, List.length_map, List.length_take, List.length_cons, List.length_nil]
      omega
    · rw [List.take_succ_eq_append_getElem hlt]
      simp only [progL, List.map_append, List.map_cons, List.map_nil]
      rfl
    · rw [wrap64 (by omega) (by omega)]; rfl
  · simp only [decide_eq_false_iff_not] at h
    have hk : k = l.length := by omega
    rw [hk, List.take_length]
    exact ⟨rfl, trivial⟩
theorem plain2 : ∀ y : cod.T 2, (cod.enc 2 y).all plainS = true := fun y => rfl
theorem l8Ok : CtrOk (F Z).S (lookC l8) := lookC_ok fun p h => by
  have h : p ∈ [_] := h
  rw [List.mem_singleton] at h
  subst h
  exact inOk
theorem progOk : CtrOk1 (F Z).S 8 (mkCtrL (C := cod) pgP (fun (x : List Rw × Unit) => rowsOk x.1) 2 (fun (x : List Rw × Unit) => progL x.1)) :=
  mkCtrL_paid (fn := Tryd.f8) (body := b8) (ctr := lookC l8) codOk noExt hookLow l8Ok Tryd.func8 rfl rfl rfl pgP (fun (x : List Rw × Unit) => rowsOk x.1) 2 (fun (x : List Rw × Unit) => progL x.1) true 0 plain2 400 (fun (x : List Rw × Unit) => [(3, pgC x.1)]) (show 1 ≤ Tryd.f8.ntmps by decide) (show Tryd.f8.ntmps ≤ 512 by decide) (by kernel_rfl)
    (fun (x : List Rw × Unit) hp => pg_e_ok x.1) (fun (x : List Rw × Unit) hp p hm s hI => by
      simp only [List.mem_singleton] at hm
      subst hm
      exact pg_3_ok x.1 s hp hI)

/-! ### The document's Print -/
theorem rp_e_ok (p : List Ins) : Paid (entryX (F Z) (lookC l12) 400 Tryd.f12 b12 (rpF p) [.tl (T := T) 2 p]) := by
  refine ⟨?_⟩
  rw [rp_e]
  exact ⟨⟨0, []⟩, rfl, rfl, rfl, ⟨Nat.zero_le _, rfl, Nat.le_refl _⟩, trivial⟩
theorem rp_3_ok (p : List Ins) (hp : insOk p) (k : Nat) (acc : List UInt8) (h1 : k ≤ p.length) (h2 : printGo (p.drop k) acc = printR p) (h3 : acc.length ≤ 201 * k) : Paid (cutVC (F Z) (lookC l12) 400 Tryd.f12 b12 (rpF p) 3 (rpC p) ⟨k, acc⟩) := by
  refine ⟨?_⟩
  rw [rp_3]
  obtain ⟨hp1, hp2⟩ := hp
  refine ⟨fun h => ?_, fun h => ?_⟩
  · simp only [decide_eq_true_eq] at h
    have hlt : k < p.length := by omega
    rw [List.drop_eq_getElem_cons hlt] at h2
    rw [at2_get hlt]
    have hx := hp2 _ (List.getElem_mem hlt)
    generalize p[k] = x at h2 hx ⊢
    have hll := lineR_len x
    refine ⟨⟨by omega, h⟩, hx, fun g => ?_, fun g => ?_⟩
    · have hm : mayB x = false := by simpa using g
      have e : printR p = ([], false) := by rw [← h2]; simp only [printGo, hm, Bool.false_eq_true, if_false]
      rw [e]
      exact ⟨rfl, rfl, trivial⟩
    · have hm : mayB x = true := by simpa using g
      refine ⟨?_, ?_, ⟨k + 1, acc ++ (lineR x ++ [10])⟩, rfl, rfl, ?_, ⟨by show k + 1 ≤ p.length; omega, ?_, ?_⟩, by show p.length - (k + 1) < p.length - k; omega, trivial⟩
      · show (((lineR x).length + 1 : Nat) : Int) ≤ _; omega
      · show ((acc.length + (lineR x ++ [10]).length : Nat) : Int) ≤ _
        simp only [List.length_append, List.length_cons, List.length_nil]; omega
      · rw [wrap64 (by omega) (by omega)]; rfl
      · show printGo (p.drop (k + 1)) (acc ++ (lineR x ++ [10])) = printR p
        rw [← h2]
        simp only [printGo, hm, if_true, List.append_assoc]
      · show (acc ++ (lineR x ++ [10])).length ≤ 201 * (k + 1)
        simp only [List.length_append, List.length_cons, List.length_nil]; omega
  · simp only [decide_eq_false_iff_not] at h
    have hk : k = p.length := by omega
    rw [hk, List.drop_length] at h2
    rw [← h2]
    exact ⟨rfl, rfl, trivial⟩
theorem l12Ok : CtrOk (F Z).S (lookC l12) := lookC_ok fun p h => by
  have h : p ∈ [_] := h
  rw [List.mem_singleton] at h
  subst h
  exact rnOk
theorem rpOk : CtrOk1 (F Z).S 12 (mkCtr rpD) :=
  mkCtr_paid (fn := Tryd.f12) (body := b12) (ctr := lookC l12) codOk noExt hookLow l12Ok Tryd.func12 rfl rfl rfl rpD 400 (fun (x : List Ins × Unit) => [(3, rpC x.1)]) (show 1 ≤ Tryd.f12.ntmps by decide) (show Tryd.f12.ntmps ≤ 512 by decide) (by kernel_rfl) (fun _ _ => ⟨rfl, rfl⟩)
    (fun (x : List Ins × Unit) hp => rp_e_ok x.1) (fun (x : List Ins × Unit) hp p hm s hI => by
      simp only [List.mem_singleton] at hm
      subst hm
      exact rp_3_ok x.1 hp s.k s.acc hI.1 hI.2.1 hI.2.2)

/-! ### The law -/
theorem insF_n (k : K4) (n : Int) (raw : Bool) (h : okI n) : okI (insF k n raw).n := by
  have h0 : okI 0 := ⟨by decide, by decide⟩
  unfold insF
  split
  · exact h
  · dsimp only
    repeat' split
    all_goals first
      | exact h
      | exact h0
theorem prog_ok {l : List Rw} (hl : ∀ r ∈ l, okI r.n) (h20 : l.length ≤ 20) : insOk (progL l) := by
  refine ⟨by rw [progL, List.length_map]; omega, fun x hx => ?_⟩
  obtain ⟨r, hr, rfl⟩ := List.mem_map.1 hx
  exact insF_n _ _ _ (hl r hr)
theorem ak_e_ok (l : List Rw) (hl : ∀ r ∈ l, okI r.n) : Paid (entryX (F Z) (lookC l3) 400 Tryd.f3 b3 ⟨[(5, akC l)], .b true, []⟩ [.tl (T := T) 5 l]) := by
  refine ⟨?_⟩
  rw [ak_e]
  refine ⟨fun _ => ⟨rfl, trivial⟩, fun h => ?_⟩
  simp only [decide_eq_false_iff_not] at h
  exact ⟨by show l.length ≤ 1000; omega, 0, rfl, rfl, ⟨Nat.zero_le _, prog_ok hl (by omega)⟩, trivial⟩
theorem ak_5_ok (l : List Rw) (k : Nat) (hk : k ≤ (progL l).length) (hp : insOk (progL l)) : Paid (cutVC (F Z) (lookC l3) 400 Tryd.f3 b3 ⟨[(5, akC l)], .b true, []⟩ 5 (akC l) k) := by
  refine ⟨?_⟩
  rw [ak_5]
  generalize progL l = p at *
  obtain ⟨hp1, hp2⟩ := hp
  refine ⟨fun h => ?_, fun h => ?_⟩
  · simp only [decide_eq_true_eq] at h
    have hlt : k < p.length := by omega
    rw [at2_get hlt]
    have hx := hp2 _ (List.getElem_mem hlt)
    generalize p[k] = x at hx ⊢
    refine ⟨⟨by omega, h⟩, hx, ⟨by omega, h⟩, hx, fun g => by simp at g, fun _ => ⟨fun g => by simp at g, fun _ => ⟨k + 1, rfl, ?_, ⟨by omega, hp1, hp2⟩, by omega, trivial⟩⟩⟩
    rw [wrap64 (by omega) (by omega)]; rfl
  · refine ⟨⟨hp1, hp2⟩, ⟨hp1, hp2⟩, fun _ => ⟨by simp, trivial⟩, fun g => by simp at g⟩
theorem l3Ok : CtrOk (F prXs).S (lookC l3) := lookC_ok fun p h => by
  simp only [l3, List.mem_cons, List.not_mem_nil, or_false] at h
  rcases h with rfl | rfl | rfl | rfl | rfl | rfl
  · exact tellOk
  · exact progOk
  · exact lnOk
  · exact rnOk
  · exact printOk
  · exact rpOk
set_option maxRecDepth 10000 in
theorem asks_run (l : List Rw) (hl : ∀ r ∈ l, okI r.n) {av : List AVal} (hA : Ers (C := cod) (away []) [.tl (T := T) 5 l] av) : ∃ n H', runA (F prXs).S n 0 3 av [] = some (.bool true, H') :=
  law_paid (F := F prXs) (fn := Tryd.f3) (body := b3) (args := [.tl (T := T) 5 l]) codOk noExt hookLow l3Ok Tryd.func3 rfl (by kernel_rfl) (by kernel_rfl) 400 [(5, akC l)] (show 1 ≤ Tryd.f3.ntmps by decide) (show Tryd.f3.ntmps ≤ 512 by decide) (by kernel_rfl)
    (ak_e_ok l hl) (fun p hm s hI => by
      simp only [List.mem_singleton] at hm
      subst hm
      exact ak_5_ok l s hI.1 hI.2) hA
end Go.Proofs.YtbbbpnaghipfmaaDoor

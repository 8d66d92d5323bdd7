/- HoldTexts: its run. -/
import Derived.Test.YtlninpcoolakbaaGreatDoorRt
namespace Go.Proofs.YtlninpcoolakbaaGreatDoor
open Go.RowKit Go.Am Go.Sy
set_option linter.unusedVariables false
set_option linter.unusedSimpArgs false
theorem ht_e (o : Out) : Go.Sy.Tree.holds (entryX F (lookC l3) 600 Tryz.f3 b3 (htF o) [.agg (enc4 o)]) = ( (decide ((↑o.logs.length : Int) > 5) = true → true = true ∧ True) ∧ (decide ((↑o.logs.length : Int) > 5) = false →
 (decide ((↑o.status.length : Int) > 5) = true → true = true ∧ True) ∧ (decide ((↑o.status.length : Int) > 5) = false → (decide ((↑o.words.length : Int) > 20) = true → true = true ∧ True) ∧ (decide ((↑o.words.length :
 Int) > 20) = false → (decide ((↑o.owners.length : Int) > 20) = true → true = true ∧ True) ∧ (decide ((↑o.owners.length : Int) > 20) = false → (decide ((↑o.queues.length : Int) > 5) = true → true = true ∧ True) ∧ (decide
 ((↑o.queues.length : Int) > 5) = false → (decide ((↑o.logs.length : Int) > (↑o.status.length : Int)) = true → ((0 : Int) ≤ 0 ∧ (0 : Int) ≤ (↑o.status.length : Int) ∧ (↑o.status.length : Int) ≤ (↑o.logs.length : Int)) ∧ ∃
 (s : List (List Int)), List.take ((↑o.status.length : Int).toNat - 0) (List.drop (0 : Nat) o.logs) = (oF o s).logs ∧ o.words = (oF o s).words ∧ o.owners = (oF o s).owners ∧ o.status = (oF o s).status ∧ o.queues = (oF o
 s).queues ∧ htB o s ∧ True) ∧ (decide ((↑o.logs.length : Int) > (↑o.status.length : Int)) = false → ∃ (s : List (List Int)), o.logs = (oF o s).logs ∧ o.words = (oF o s).words ∧ o.owners = (oF o s).owners ∧ o.status = (oF
 o s).status ∧ o.queues = (oF o s).queues ∧ htB o s ∧ True))))))) := by kernel_rfl
theorem ht_5 (o : Out) (l : List (List Int)) : Go.Sy.Tree.holds (cutVC F (lookC l3) 600 Tryz.f3 b3 (htF o) 5 (ht5 o) l) = ( (decide ((↑(oF o l).logs.length : Int) < (↑(oF o l).status.length : Int)) = true → (([] : List
 (List Int)).length + (oF o l).logs.length) * 24 ≤ 140737488355328 ∧ (([] ++ (oF o l).logs).length + ([[]] : List (List Int)).length) * 24 ≤ 140737488355328 ∧ ∃ (s : List (List Int)), [] ++ (oF o l).logs ++ [[]] = (oF o
 s).logs ∧ (oF o l).words = (oF o s).words ∧ (oF o l).owners = (oF o s).owners ∧ (oF o l).status = (oF o s).status ∧ (oF o l).queues = (oF o s).queues ∧ htB o s ∧ (20000 : Nat) + (o.status.length - s.length) < 20000 +
 (o.status.length - l.length) ∧ True) ∧ (decide ((↑(oF o l).logs.length : Int) < (↑(oF o l).status.length : Int)) = false → ∃ (s : HtS), (oF o l).logs = (oF o s.l).logs ∧ (oF o l).words = (oF o s.l).words ∧ (oF o
 l).owners = (oF o s.l).owners ∧ (oF o l).status = (oF o s.l).status ∧ (oF o l).queues = (oF o s.l).queues ∧ (0 : Int) = (↑s.k : Int) ∧ (htB o s.l ∧ s.l.length = o.status.length ∧ s.k ≤ s.l.length ∧ ∀ (x : List Int), x ∈
 List.take s.k s.l → x.length ≤ 20) ∧ (10000 : Nat) + (s.l.length - s.k) < 20000 + (o.status.length - l.length) ∧ True)) := by kernel_rfl
theorem ht_8 (o : Out) (s : HtS) : Go.Sy.Tree.holds (cutVC F (lookC l3) 600 Tryz.f3 b3 (htF o) 8 (ht8 o) s) = ( (decide ((↑s.k : Int) < (↑(oF o s.l).logs.length : Int)) = true → ((0 : Int) ≤ (↑s.k : Int) ∧ (↑s.k : Int) <
 (↑(oF o s.l).logs.length : Int)) ∧ (decide ((↑(at1 (oF o s.l).logs (↑s.k : Int)).length : Int) > 20) = true → true = true ∧ True) ∧ (decide ((↑(at1 (oF o s.l).logs (↑s.k : Int)).length : Int) > 20) = false → ∃ (s_1 :
 HtS), (oF o s.l).logs = (oF o s_1.l).logs ∧ (oF o s.l).words = (oF o s_1.l).words ∧ (oF o s.l).owners = (oF o s_1.l).owners ∧ (oF o s.l).status = (oF o s_1.l).status ∧ (oF o s.l).queues = (oF o s_1.l).queues ∧
 IntKind.i64.wrap ((↑s.k : Int) + 1) = (↑s_1.k : Int) ∧ (htB o s_1.l ∧ s_1.l.length = o.status.length ∧ s_1.k ≤ s_1.l.length ∧ ∀ (x : List Int), x ∈ List.take s_1.k s_1.l → x.length ≤ 20) ∧ (10000 : Nat) + (s_1.l.length -
 s_1.k) < 10000 + (s.l.length - s.k) ∧ True)) ∧ (decide ((↑s.k : Int) < (↑(oF o s.l).logs.length : Int)) = false → ∃ (s_1 : HtS), (oF o s.l).logs = (oF o s_1.l).logs ∧ (oF o s.l).words = (oF o s_1.l).words ∧ (oF o
 s.l).owners = (oF o s_1.l).owners ∧ (oF o s.l).status = (oF o s_1.l).status ∧ (oF o s.l).queues = (oF o s_1.l).queues ∧ (0 : Int) = (↑s_1.k : Int) ∧ (htB o s_1.l ∧ s_1.l.length = o.status.length ∧ (∀ (x : List Int), x ∈
 s_1.l → x.length ≤ 20) ∧ s_1.k ≤ o.queues.length ∧ ∀ (x : List Int), x ∈ List.take s_1.k o.queues → x.length ≤ 20) ∧ o.queues.length - s_1.k < 10000 + (s.l.length - s.k) ∧ True)) := by kernel_rfl
theorem ht_13 (o : Out) (s : HtS) : Go.Sy.Tree.holds (cutVC F (lookC l3) 600 Tryz.f3 b3 (htF o) 13 (ht13 o) s) = ( (decide ((↑s.k : Int) < (↑(oF o s.l).queues.length : Int)) = true → ((0 : Int) ≤ (↑s.k : Int) ∧ (↑s.k :
 Int) < (↑(oF o s.l).queues.length : Int)) ∧ (decide ((↑(at1 (oF o s.l).queues (↑s.k : Int)).length : Int) > 20) = true → true = true ∧ True) ∧ (decide ((↑(at1 (oF o s.l).queues (↑s.k : Int)).length : Int) > 20) = false →
 ∃ (s_1 : HtS), (oF o s.l).logs = (oF o s_1.l).logs ∧ (oF o s.l).words = (oF o s_1.l).words ∧ (oF o s.l).owners = (oF o s_1.l).owners ∧ (oF o s.l).status = (oF o s_1.l).status ∧ (oF o s.l).queues = (oF o s_1.l).queues ∧
 IntKind.i64.wrap ((↑s.k : Int) + 1) = (↑s_1.k : Int) ∧ (htB o s_1.l ∧ s_1.l.length = o.status.length ∧ (∀ (x : List Int), x ∈ s_1.l → x.length ≤ 20) ∧ s_1.k ≤ o.queues.length ∧ ∀ (x : List Int), x ∈ List.take s_1.k
 o.queues → x.length ≤ 20) ∧ o.queues.length - s_1.k < o.queues.length - s.k ∧ True)) ∧ (decide ((↑s.k : Int) < (↑(oF o s.l).queues.length : Int)) = false → outB (oc (Out.mk (oF o s.l).logs (oF o s.l).words (oF o
 s.l).owners (oF o s.l).status (oF o s.l).queues)) = true ∧ rtD.pre (Out.mk (oF o s.l).logs (oF o s.l).words (oF o s.l).owners (oF o s.l).status (oF o s.l).queues, ()) ∧ (textR (oc (Out.mk (oF o s.l).logs (oF o s.l).words
 (oF o s.l).owners (oF o s.l).status (oF o s.l).queues)) == textR (oc (Out.mk (oF o s.l).logs (oF o s.l).words (oF o s.l).owners (oF o s.l).status (oF o s.l).queues))) = true ∧ True)) := by kernel_rfl
structure ArgOk (o : Out) : Prop where
  logs : ∀ l ∈ o.logs, ∀ n ∈ l, okB n = true
  words : ∀ n ∈ o.words, okB n = true
  owners : ∀ n ∈ o.owners, okB n = true
  status : ∀ n ∈ o.status, okB n = true
  queues : ∀ l ∈ o.queues, ∀ n ∈ l, okB n = true
theorem htE_ok (o : Out) (ha : ArgOk o) : Paid (entryX F (lookC l3) 600 Tryz.f3 b3 (htF o) [.agg (enc4 o)]) := by
  refine ⟨?_⟩
  rw [ht_e]
  refine ⟨fun _ => ⟨rfl, trivial⟩, fun h1 => ⟨fun _ => ⟨rfl, trivial⟩, fun h2 => ⟨fun _ => ⟨rfl, trivial⟩, fun h3 => ⟨fun _ => ⟨rfl, trivial⟩, fun h4 => ⟨fun _ => ⟨rfl, trivial⟩, fun h5 => ⟨fun h6 => ?_, fun h6 => ?_⟩⟩⟩⟩⟩⟩
  · simp only [decide_eq_true_eq, decide_eq_false_iff_not] at h1 h2 h3 h4 h5 h6
    refine ⟨⟨by omega, by omega, by omega⟩, _, rfl, rfl, rfl, rfl, rfl, ⟨?_, by omega, by omega, by omega, by omega, ?_⟩, trivial⟩
    · simp only [List.length_take, List.drop_zero]; omega
    · intro x hx
      rw [List.drop_zero] at hx
      exact ha.logs x (List.mem_of_mem_take hx)
  · simp only [decide_eq_true_eq, decide_eq_false_iff_not] at h1 h2 h3 h4 h5 h6
    exact ⟨_, rfl, rfl, rfl, rfl, rfl, ⟨by omega, by omega, by omega, by omega, by omega, ha.logs⟩, trivial⟩
theorem ht5_ok (o : Out) (l : List (List Int)) (hb : htB o l) : Paid (cutVC F (lookC l3) 600 Tryz.f3 b3 (htF o) 5 (ht5 o) l) := by
  refine ⟨?_⟩
  rw [ht_5]
  have e0 : (oF o l).logs.length = l.length := rfl
  have e1 : (oF o l).status.length = o.status.length := rfl
  obtain ⟨b0, b1, b2, b3, b4, b5⟩ := hb
  refine ⟨fun h => ?_, fun h => ?_⟩
  · have h : (l.length : Int) < (o.status.length : Int) := of_decide_eq_true h
    refine ⟨by simp only [List.length_nil]; omega, by simp only [List.length_append, List.length_cons, List.length_nil]; omega, _, rfl, rfl, rfl, rfl, rfl, ⟨?_, b1, b2, b3, b4, ?_⟩, ?_, trivial⟩
    · simp only [List.length_append, List.length_cons, List.length_nil]; omega
    · intro x hx
      simp only [List.nil_append, List.mem_append, List.mem_singleton] at hx
      rcases hx with hx | rfl
      · exact b5 x hx
      · intro n hn; simp at hn
    · simp only [List.length_append, List.length_cons, List.length_nil]; omega
  · have h : ¬ (l.length : Int) < (o.status.length : Int) := of_decide_eq_false h
    refine ⟨⟨l, 0⟩, rfl, rfl, rfl, rfl, rfl, rfl, ⟨⟨b0, b1, b2, b3, b4, b5⟩, ?_, Nat.zero_le _, ?_⟩, ?_, trivial⟩
    · show l.length = o.status.length; omega
    · intro x hx; simp at hx
    · show 10000 + (l.length - 0) < 20000 + (o.status.length - l.length); omega
theorem ht8_ok (o : Out) (l : List (List Int)) (k : Nat) (hb : htB o l) (hl : l.length = o.status.length) (hk : k ≤ l.length) (hx : ∀ x ∈ l.take k, x.length ≤ 20) : Paid (cutVC F (lookC l3) 600 Tryz.f3 b3 (htF o) 8 (ht8 o) ⟨l, k⟩) := by
  refine ⟨?_⟩
  rw [ht_8]
  have hb0 := hb
  obtain ⟨b0, b1, b2, b3, b4, b5⟩ := hb
  refine ⟨fun h => ?_, fun h => ?_⟩
  · have h : (k : Int) < (l.length : Int) := of_decide_eq_true h
    have hlt : k < l.length := by omega
    rw [show at1 (oF o (HtS.mk l k).l).logs (((HtS.mk l k).k : Nat) : Int) = l[k] from at1_get hlt]
    refine ⟨⟨by omega, h⟩, fun _ => ⟨rfl, trivial⟩, fun h2 => ?_⟩
    have h2 : ¬ (l[k].length : Int) > 20 := of_decide_eq_false h2
    have hle : l[k].length ≤ 20 := by omega
    refine ⟨⟨l, k + 1⟩, rfl, rfl, rfl, rfl, rfl, succ64 (show k < 1000000000 by omega), ⟨hb0, hl, hlt, all_take hx hlt hle⟩, ?_, trivial⟩
    show 10000 + (l.length - (k + 1)) < 10000 + (l.length - k); omega
  · have h : ¬ (k : Int) < (l.length : Int) := of_decide_eq_false h
    have hke : k = l.length := by omega
    rw [hke, List.take_length] at hx
    refine ⟨⟨l, 0⟩, rfl, rfl, rfl, rfl, rfl, rfl, ⟨hb0, hl, hx, Nat.zero_le _, ?_⟩, ?_, trivial⟩
    · intro x hx; simp at hx
    · show o.queues.length - 0 < 10000 + (l.length - k); omega
theorem listB_of {l : List Int} (h : l.length ≤ 1000) (k : ∀ n ∈ l, okB n = true) : listB l = true := by
  rw [listB, Bool.and_eq_true, Nat.ble_eq, List.all_eq_true]
  exact ⟨h, k⟩
theorem ht13_ok (o : Out) (ha : ArgOk o) (l : List (List Int)) (k : Nat) (hb : htB o l) (hl : l.length = o.status.length) (hll : ∀ x ∈ l, x.length ≤ 20) (hk : k ≤ o.queues.length) (hx : ∀ x ∈ o.queues.take k, x.length ≤ 20) : Paid (cutVC F (lookC l3) 600 Tryz.f3 b3 (htF o) 13 (ht13 o) ⟨l, k⟩) := by
  refine ⟨?_⟩
  rw [ht_13]
  have hb0 := hb
  obtain ⟨b0, b1, b2, b3, b4, b5⟩ := hb
  refine ⟨fun h => ?_, fun h => ?_⟩
  · have h : (k : Int) < (o.queues.length : Int) := of_decide_eq_true h
    have hlt : k < o.queues.length := by omega
    rw [show at1 (oF o (HtS.mk l k).l).queues (((HtS.mk l k).k : Nat) : Int) = o.queues[k] from at1_get hlt]
    refine ⟨⟨by omega, h⟩, fun _ => ⟨rfl, trivial⟩, fun h2 => ?_⟩
    have h2 : ¬ (o.queues[k].length : Int) > 20 := of_decide_eq_false h2
    have hle : o.queues[k].length ≤ 20 := by omega
    refine ⟨⟨l, k + 1⟩, rfl, rfl, rfl, rfl, rfl, succ64 (show k < 1000000000 by omega), ⟨hb0, hl, hll, hlt, all_take hx hlt hle⟩, ?_, trivial⟩
    show o.queues.length - (k + 1) < o.queues.length - k; omega
  · have h : ¬ (k : Int) < (o.queues.length : Int) := of_decide_eq_false h
    have hke : k = o.queues.length := by omega
    rw [hke, List.take_length] at hx
    have hout : outB (oc ⟨l, o.words, o.owners, o.status, o.queues⟩) = true := by
      simp only [outB, oc, Bool.and_eq_true, Nat.ble_eq, List.all_eq_true]
      refine ⟨⟨⟨⟨⟨⟨by omega, fun x h => listB_of (by have := hll x h; omega) (b5 x h)⟩, listB_of (by omega) ha.words⟩, listB_of (by omega) ha.owners⟩, listB_of (by omega) ha.status⟩, by omega⟩, fun x h => listB_of (by have := hx x h; omega) (ha.queues x h)⟩
    exact ⟨hout, ⟨hout, hl⟩, beq_self_eq_true _, trivial⟩
theorem l3Ok : CtrOk F.S (lookC l3) := lookC_ok fun p h => by
  have h : p ∈ [_, _, _] := h
  simp only [List.mem_cons, List.not_mem_nil, or_false] at h
  rcases h with rfl | rfl | rfl
  · exact tellOk
  · exact textOk
  · exact rtOk
theorem texts_run (o : Out) (ha : ArgOk o) {av : List AVal} (hA : Ers (C := cod) (away []) [.agg (enc4 o)] av) : ∃ n H', runA S n 0 3 av [] = some (.bool true, H') :=
  law_paid (F := F) (fn := Tryz.f3) (body := b3) (ctr := lookC l3) codOk noExt hookLow l3Ok Tryz.func3 rfl rfl rfl 600 (args := [.agg (enc4 o)]) [(5, ht5 o), (8, ht8 o), (13, ht13 o)] (show 1 ≤ Tryz.f3.ntmps by decide) (show Tryz.f3.ntmps ≤ 512 by decide) (by kernel_rfl)
    (htE_ok o ha) (fun p hm s hI => by
      simp only [List.mem_cons, List.not_mem_nil, or_false] at hm
      rcases hm with rfl | rfl | rfl
      · exact ht5_ok o s hI
      · obtain ⟨l, k⟩ := s
        exact ht8_ok o l k hI.1 hI.2.1 hI.2.2.1 hI.2.2.2
      · obtain ⟨l, k⟩ := s
        exact ht13_ok o ha l k hI.1 hI.2.1 hI.2.2.1 hI.2.2.2.1 hI.2.2.2.2) hA
end Go.Proofs.YtlninpcoolakbaaGreatDoor

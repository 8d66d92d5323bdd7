/- The document's lists of numbers: their contracts are paid. -/
import Derived.Test.YtlninpcoolakbaaGreatDoorTk
namespace Go.Proofs.YtlninpcoolakbaaGreatDoor
open Go.RowKit Go.Am Go.Sy
set_option linter.unusedVariables false
set_option linter.unusedSimpArgs false
theorem nu_e (l : List Int) : Go.Sy.Tree.holds (entryX F (lookC l24) 400 Tryz.f24 b24 (nuF l) [.tl (T := T) 0 l]) = ( ∃ (s : Nat), l = l ∧ [] = numsS (List.take s l) ∧ (0 : Int) = (↑s : Int) ∧ s ≤ l.length ∧ True) := by
 kernel_rfl
theorem nu_3 (l : List Int) (k : Nat) : Go.Sy.Tree.holds (cutVC F (lookC l24) 400 Tryz.f24 b24 (nuF l) 3 (nuC l) k) = ( (decide ((↑k : Int) < (↑l.length : Int)) = true → ((0 : Int) ≤ (↑k : Int) ∧ (↑k : Int) < (↑l.length :
 Int)) ∧ decD.pre (at0 l (↑k : Int), ()) ∧ (↑([(32 : UInt8)].length + (decS (at0 l (↑k : Int))).length) : Int) ≤ 9223372036854775807 ∧ (↑((numsS (List.take k l)).length + ([(32 : UInt8)] ++ decS (at0 l (↑k :
 Int))).length) : Int) ≤ 9223372036854775807 ∧ ∃ (s : Nat), l = l ∧ numsS (List.take k l) ++ ([(32 : UInt8)] ++ decS (at0 l (↑k : Int))) = numsS (List.take s l) ∧ IntKind.i64.wrap ((↑k : Int) + 1) = (↑s : Int) ∧ s ≤
 l.length ∧ l.length - s < l.length - k ∧ True) ∧ (decide ((↑k : Int) < (↑l.length : Int)) = false → numsS (List.take k l) = numsS l ∧ True)) := by kernel_rfl
theorem ni_e (l : List Int) : Go.Sy.Tree.holds (entryX F (lookC l24) 400 Tryz.f25 b25 (nuF l) [.tl (T := T) 0 l]) = ( ∃ (s : Nat), l = l ∧ [] = numsS (List.take s l) ∧ (0 : Int) = (↑s : Int) ∧ s ≤ l.length ∧ True) := by
 kernel_rfl
theorem ni_3 (l : List Int) (k : Nat) : Go.Sy.Tree.holds (cutVC F (lookC l24) 400 Tryz.f25 b25 (nuF l) 3 (nuC l) k) = ( (decide ((↑k : Int) < (↑l.length : Int)) = true → ((0 : Int) ≤ (↑k : Int) ∧ (↑k : Int) < (↑l.length :
 Int)) ∧ decD.pre (at0 l (↑k : Int), ()) ∧ (↑([(32 : UInt8)].length + (decS (at0 l (↑k : Int))).length) : Int) ≤ 9223372036854775807 ∧ (↑((numsS (List.take k l)).length + ([(32 : UInt8)] ++ decS (at0 l (↑k :
 Int))).length) : Int) ≤ 9223372036854775807 ∧ ∃ (s : Nat), l = l ∧ numsS (List.take k l) ++ ([(32 : UInt8)] ++ decS (at0 l (↑k : Int))) = numsS (List.take s l) ∧ IntKind.i64.wrap ((↑k : Int) + 1) = (↑s : Int) ∧ s ≤
 l.length ∧ l.length - s < l.length - k ∧ True) ∧ (decide ((↑k : Int) < (↑l.length : Int)) = false → numsS (List.take k l) = numsS l ∧ True)) := by kernel_rfl
theorem nums_step (l : List Int) {k : Nat} (hk : k < l.length) : numsS (l.take k) ++ ([32] ++ decS l[k]) = numsS (l.take (k + 1)) := by
  rw [List.take_succ_eq_append_getElem hk]
  simp only [numsS, List.map_append, List.map_cons, List.map_nil, List.flatten_append, List.flatten_cons, List.flatten_nil, List.append_nil]
  rfl
theorem numsS_len (l : List Int) : (numsS l).length ≤ 22 * l.length := by
  induction l with
  | nil => exact Nat.le_refl _
  | cons n l ih =>
    have := decS_len n
    simp only [numsS, List.map_cons, List.flatten_cons, List.length_append, List.length_cons] at ih ⊢
    omega
theorem numsS_is {l : List Int} (h : ∀ n ∈ l, okB n = true) : numsS l = numsR l := by
  unfold numsS numsR
  refine congrArg _ (List.map_congr_left fun n hn => ?_)
  have := okB_is (h n hn)
  rw [decS_is this.1 this.2]
theorem nuE_ok (l : List Int) : Paid (entryX F (lookC l24) 400 Tryz.f24 b24 (nuF l) [.tl (T := T) 0 l]) := by
  refine ⟨?_⟩
  rw [nu_e]
  exact ⟨0, rfl, rfl, rfl, Nat.zero_le _, trivial⟩
theorem nu3_ok (l : List Int) (k : Nat) (hl : l.length ≤ 1000) (hk : k ≤ l.length) : Paid (cutVC F (lookC l24) 400 Tryz.f24 b24 (nuF l) 3 (nuC l) k) := by
  refine ⟨?_⟩
  rw [nu_3]
  refine ⟨fun h => ?_, fun h => ?_⟩
  · simp only [decide_eq_true_eq] at h
    have hlt : k < l.length := by omega
    have h1 := decS_len l[k]
    have h2 := numsS_len (l.take k)
    rw [at0_get hlt]
    refine ⟨⟨by omega, h⟩, trivial, ?_, ?_, k + 1, rfl, nums_step l hlt, succ64 (by omega), by omega, by omega, trivial⟩
    · simp only [List.length_cons, List.length_nil]; omega
    · simp only [List.length_cons, List.length_nil, List.length_append, List.length_take] at h2 ⊢; omega
  · simp only [decide_eq_false_iff_not] at h
    have hk : k = l.length := by omega
    rw [hk, List.take_length]
    exact ⟨rfl, trivial⟩
theorem niE_ok (l : List Int) : Paid (entryX F (lookC l24) 400 Tryz.f25 b25 (nuF l) [.tl (T := T) 0 l]) := by
  refine ⟨?_⟩
  rw [ni_e]
  exact ⟨0, rfl, rfl, rfl, Nat.zero_le _, trivial⟩
theorem ni3_ok (l : List Int) (k : Nat) (hl : l.length ≤ 1000) (hk : k ≤ l.length) : Paid (cutVC F (lookC l24) 400 Tryz.f25 b25 (nuF l) 3 (nuC l) k) := by
  refine ⟨?_⟩
  rw [ni_3]
  refine ⟨fun h => ?_, fun h => ?_⟩
  · simp only [decide_eq_true_eq] at h
    have hlt : k < l.length := by omega
    have h1 := decS_len l[k]
    have h2 := numsS_len (l.take k)
    rw [at0_get hlt]
    refine ⟨⟨by omega, h⟩, trivial, ?_, ?_, k + 1, rfl, nums_step l hlt, succ64 (by omega), by omega, by omega, trivial⟩
    · simp only [List.length_cons, List.length_nil]; omega
    · simp only [List.length_cons, List.length_nil, List.length_append, List.length_take] at h2 ⊢; omega
  · simp only [decide_eq_false_iff_not] at h
    have hk : k = l.length := by omega
    rw [hk, List.take_length]
    exact ⟨rfl, trivial⟩
theorem l24Ok : CtrOk F.S (lookC l24) := lookC_ok fun p h => by
  have h : p ∈ [_] := h
  rw [List.mem_singleton] at h
  subst h
  exact decOk
theorem numsOk : CtrOk1 F.S 24 (mkCtr nuD) :=
  mkCtr_paid (fn := Tryz.f24) (body := b24) (ctr := lookC l24) codOk noExt hookLow l24Ok Tryz.func24 rfl rfl rfl nuD 400 (fun (x : List Int × Unit) => [(3, nuC x.1)]) (show 1 ≤ Tryz.f24.ntmps by decide) (show Tryz.f24.ntmps ≤ 512 by decide) (by kernel_rfl)
    (fun x _ => ⟨rfl, rfl⟩) (fun (x : List Int × Unit) hp => nuE_ok x.1) (fun (x : List Int × Unit) hp p hm s hI => by
      simp only [List.mem_singleton] at hm
      subst hm
      exact nu3_ok x.1 s hp hI)
theorem intsOk : CtrOk1 F.S 25 (mkCtr nuD) :=
  mkCtr_paid (fn := Tryz.f25) (body := b25) (ctr := lookC l24) codOk noExt hookLow l24Ok Tryz.func25 rfl rfl rfl nuD 400 (fun (x : List Int × Unit) => [(3, nuC x.1)]) (show 1 ≤ Tryz.f25.ntmps by decide) (show Tryz.f25.ntmps ≤ 512 by decide) (by kernel_rfl)
    (fun x _ => ⟨rfl, rfl⟩) (fun (x : List Int × Unit) hp => niE_ok x.1) (fun (x : List Int × Unit) hp p hm s hI => by
      simp only [List.mem_singleton] at hm
      subst hm
      exact ni3_ok x.1 s hp hI)
def outOk (o : Out) : Prop := outB (oc o) = true ∧ o.logs.length = o.status.length
def rtD : CtrD cod where
  pats := [.row 4]
  pre := fun (x : Out × Unit) => outOk x.1
  res := fun (x : Out × Unit) => .s (textR (oc x.1))
  objs := fun x => []
structure RtS where
  k : Nat
  acc : List UInt8
def rt3 (o : Out) : CutD cod := ⟨RtS, fun s => s.k ≤ o.status.length ∧ s.acc ++ thrsR o.logs s.k (o.status.drop s.k) = thrsR o.logs 0 o.status, fun s => 10000 + (o.status.length - s.k),
  fun s => [(1, .ptr 0 0), (3, .s s.acc), (4, .i .i64 (s.k : Int))], fun _ => [.cells (enc4 o)]⟩
def rt13 (o : Out) : CutD cod := ⟨RtS, fun s => s.k ≤ o.queues.length ∧ s.acc ++ quesR s.k (o.queues.drop s.k) = textR (oc o), fun s => o.queues.length - s.k,
  fun s => [(1, .ptr 0 0), (3, .s s.acc), (5, .i .i64 (s.k : Int))], fun _ => [.cells (enc4 o)]⟩
def rtF (o : Out) : FnD cod := ⟨[(3, rt3 o), (13, rt13 o)], .s (textR (oc o)), []⟩
noncomputable def b7 : Code := Tryz.f7.body.getD .skip
noncomputable def l7 : List (FuncId × Ctr cod) := [(23, mkCtr decD), (24, mkCtr nuD), (25, mkCtr nuD)]
structure HtS where
  l : List (List Int)
  k : Nat
def oF (o : Out) (l : List (List Int)) : Out := ⟨l, o.words, o.owners, o.status, o.queues⟩
def htB (o : Out) (l : List (List Int)) : Prop := l.length ≤ o.status.length ∧ o.status.length ≤ 5 ∧ o.words.length ≤ 20 ∧ o.owners.length ≤ 20 ∧ o.queues.length ≤ 5 ∧ ∀ x ∈ l, ∀ n ∈ x, okB n = true
def ht5 (o : Out) : CutD cod := ⟨List (List Int), fun l => htB o l, fun l => 20000 + (o.status.length - l.length), fun l => [(1, .ptr 0 0)], fun l => [.cells (enc4 (oF o l))]⟩
def ht8 (o : Out) : CutD cod := ⟨HtS, fun s => htB o s.l ∧ s.l.length = o.status.length ∧ s.k ≤ s.l.length ∧ ∀ x ∈ s.l.take s.k, x.length ≤ 20, fun s => 10000 + (s.l.length - s.k), fun s => [(1, .ptr 0 0), (3, .i .i64 (s.k : Int))], fun s => [.cells (enc4 (oF o s.l))]⟩
def ht13 (o : Out) : CutD cod := ⟨HtS, fun s => htB o s.l ∧ s.l.length = o.status.length ∧ (∀ x ∈ s.l, x.length ≤ 20) ∧ s.k ≤ o.queues.length ∧ ∀ x ∈ o.queues.take s.k, x.length ≤ 20, fun s => o.queues.length - s.k, fun s => [(1, .ptr 0 0), (4, .i .i64 (s.k : Int))], fun s => [.cells (enc4 (oF o s.l))]⟩
def htF (o : Out) : FnD cod := ⟨[(5, ht5 o), (8, ht8 o), (13, ht13 o)], .b true, []⟩
noncomputable def tellCtr : Ctr cod := fun _ args h K => match args with
  | [] => K (.a (.bool true)) h
  | _ => .stuck "told"
theorem hook5 : F.S.hook 5 = some (litFun toldL 5) := by kernel_rfl
theorem tellOk : CtrOk1 F.S 5 tellCtr := by
  intro E lo wlo args h H K av hh hS hA
  unfold tellCtr at hh
  split at hh
  · obtain rfl := hA.inv_nil
    exact ⟨.bool true, H, _, h, E, ⟨0, by simp only [callA, hook5]; rfl⟩, LeN.refl _ _, Nat.le_refl _, hS, Nat.le_refl _, .a _, hh⟩
  · exact (stuck_no hh).elim
noncomputable def b3 : Code := Tryz.f3.body.getD .skip
noncomputable def l3 : List (FuncId × Ctr cod) := [(5, tellCtr), (6, textCtr), (7, mkCtr rtD)]
end Go.Proofs.YtlninpcoolakbaaGreatDoor

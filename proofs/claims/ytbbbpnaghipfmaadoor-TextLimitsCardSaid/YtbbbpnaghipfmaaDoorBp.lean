/- The contracts of Put and Parse are paid. -/
import Derived.Test.YtbbbpnaghipfmaaDoorAs
namespace Go.Proofs.YtbbbpnaghipfmaaDoor
open Go.RowKit Go.Am Go.Sy
set_option linter.unusedVariables false

theorem put_e (u : TypeId) (a : AVal) (t p : Int) : Go.Sy.Tree.holds (entryX F (lookC l0) 200 Tryd.f29 b29 (putF u a t p) [.a (.iface u a), .i .i64 t, .i .i64 p]) = ( t = t ∧ p = p ∧ AVal.iface u a = AVal.iface u a ∧
 True) := by kernel_rfl
theorem par_e (s : List UInt8) : Go.Sy.Tree.holds (entryX F (lookC l1) 200 Tryd.f13 b13 (parseF s) [.s s]) = ( (decide ((↑s.length : Int) > 20000) = true → ∃ (y : Int × List P), AVal.iface (164 : TypeId) (AVal.eptr (5 :
 Nat) [AVal.str [(99 : UInt8), 111, 100, 101, 32, 52]]) = ch y.fst y.snd ∧ putC.pre (y, (-1 : Int), (0 : Int), ()) ∧ [] = (parseS s).fst ∧ putZ (y, (-1 : Int), (0 : Int), ()) = (parseS s).snd ∧ True) ∧ (decide ((↑s.length
 : Int) > 20000) = false → s.length < 4294967281 ∧ ∃ (s_1 : ParS), [] = s_1.q ∧ splitL (10 : UInt8) s = splitL (10 : UInt8) s ∧ (↑(splitL (10 : UInt8) s).length : Int) = (↑(splitL (10 : UInt8) s).length : Int) ∧ (0 : Int)
 = (↑s_1.k : Int) ∧ (s_1.k ≤ (splitL (10 : UInt8) s).length ∧ parseL (List.drop s_1.k (splitL (10 : UInt8) s)) s_1.k s_1.q = parseL (splitL (10 : UInt8) s) (0 : Nat) [] ∧ s_1.q.length ≤ 48 ∧ s.length ≤ 20000) ∧ True)) :=
 by kernel_rfl
theorem par_c (s : List UInt8) (k : Nat) (q : List Ins) : Go.Sy.Tree.holds (cutVC F (lookC l1) 200 Tryd.f13 b13 (parseF s) 5 (parseC s) ⟨k, q⟩) = ( (decide ((↑k : Int) < (↑(splitL (10 : UInt8) s).length : Int)) = true →
 ((0 : Int) ≤ (↑k : Int) ∧ (↑k : Int) < (↑(splitL (10 : UInt8) s).length : Int)) ∧ ((at3 (splitL (10 : UInt8) s) (↑k : Int) == []) = true → ∃ (s_1 : ParS), q = s_1.q ∧ splitL (10 : UInt8) s = splitL (10 : UInt8) s ∧
 (↑(splitL (10 : UInt8) s).length : Int) = (↑(splitL (10 : UInt8) s).length : Int) ∧ IntKind.i64.wrap ((↑k : Int) + 1) = (↑s_1.k : Int) ∧ (s_1.k ≤ (splitL (10 : UInt8) s).length ∧ parseL (List.drop s_1.k (splitL (10 :
 UInt8) s)) s_1.k s_1.q = parseL (splitL (10 : UInt8) s) (0 : Nat) [] ∧ s_1.q.length ≤ 48 ∧ s.length ≤ 20000) ∧ (splitL (10 : UInt8) s).length - s_1.k < (splitL (10 : UInt8) s).length - k ∧ True) ∧ ((at3 (splitL (10 :
 UInt8) s) (↑k : Int) == []) = false → (decide ((↑q.length : Int) ≥ (48 : Int)) = true → ∃ (y : Int × List P), AVal.iface (164 : TypeId) (AVal.eptr (5 : Nat) [AVal.str [(99 : UInt8), 111, 100, 101, 32, 52]]) = ch y.fst
 y.snd ∧ putC.pre (y, (-1 : Int), IntKind.i64.wrap ((↑k : Int) + 1), ()) ∧ [] = (parseS s).fst ∧ putZ (y, (-1 : Int), IntKind.i64.wrap ((↑k : Int) + 1), ()) = (parseS s).snd ∧ True) ∧ (decide ((↑q.length : Int) ≥ (48 :
 Int)) = false → at3 (splitL (10 : UInt8) s) (↑k : Int) ∈ lines ∧ (okS (at3 (splitL (10 : UInt8) s) (↑k : Int)) = true → (q.length + [Ins.mk (insS (at3 (splitL (10 : UInt8) s) (↑k : Int))).op (insS (at3 (splitL (10 :
 UInt8) s) (↑k : Int))).a (insS (at3 (splitL (10 : UInt8) s) (↑k : Int))).b (insS (at3 (splitL (10 : UInt8) s) (↑k : Int))).c (insS (at3 (splitL (10 : UInt8) s) (↑k : Int))).n].length) * 40 ≤ 140737488355328 ∧ ∃ (s_1 :
 ParS), q ++ [Ins.mk (insS (at3 (splitL (10 : UInt8) s) (↑k : Int))).op (insS (at3 (splitL (10 : UInt8) s) (↑k : Int))).a (insS (at3 (splitL (10 : UInt8) s) (↑k : Int))).b (insS (at3 (splitL (10 : UInt8) s) (↑k : Int))).c
 (insS (at3 (splitL (10 : UInt8) s) (↑k : Int))).n] = s_1.q ∧ splitL (10 : UInt8) s = splitL (10 : UInt8) s ∧ (↑(splitL (10 : UInt8) s).length : Int) = (↑(splitL (10 : UInt8) s).length : Int) ∧ IntKind.i64.wrap ((↑k :
 Int) + 1) = (↑s_1.k : Int) ∧ (s_1.k ≤ (splitL (10 : UInt8) s).length ∧ parseL (List.drop s_1.k (splitL (10 : UInt8) s)) s_1.k s_1.q = parseL (splitL (10 : UInt8) s) (0 : Nat) [] ∧ s_1.q.length ≤ 48 ∧ s.length ≤ 20000) ∧
 (splitL (10 : UInt8) s).length - s_1.k < (splitL (10 : UInt8) s).length - k ∧ True) ∧ (okS (at3 (splitL (10 : UInt8) s) (↑k : Int)) = false → (true = true → ∃ (y : Int × List P), newV (3 : Int) = ch y.fst y.snd ∧
 putC.pre (y, (-1 : Int), IntKind.i64.wrap ((↑k : Int) + 1), ()) ∧ [] = (parseS s).fst ∧ putZ (y, (-1 : Int), IntKind.i64.wrap ((↑k : Int) + 1), ()) = (parseS s).snd ∧ True) ∧ (true = false → (q.length + [Ins.mk (0 : Int)
 (0 : Int) (0 : Int) (0 : Int) (0 : Int)].length) * 40 ≤ 140737488355328 ∧ ∃ (s_1 : ParS), q ++ [Ins.mk (0 : Int) (0 : Int) (0 : Int) (0 : Int) (0 : Int)] = s_1.q ∧ splitL (10 : UInt8) s = splitL (10 : UInt8) s ∧
 (↑(splitL (10 : UInt8) s).length : Int) = (↑(splitL (10 : UInt8) s).length : Int) ∧ IntKind.i64.wrap ((↑k : Int) + 1) = (↑s_1.k : Int) ∧ (s_1.k ≤ (splitL (10 : UInt8) s).length ∧ parseL (List.drop s_1.k (splitL (10 :
 UInt8) s)) s_1.k s_1.q = parseL (splitL (10 : UInt8) s) (0 : Nat) [] ∧ s_1.q.length ≤ 48 ∧ s.length ≤ 20000) ∧ (splitL (10 : UInt8) s).length - s_1.k < (splitL (10 : UInt8) s).length - k ∧ True))))) ∧ (decide ((↑k : Int)
 < (↑(splitL (10 : UInt8) s).length : Int)) = false → q = (parseS s).fst ∧ constA Value.nilIface = (parseS s).snd ∧ True)) := by kernel_rfl

theorem l0Ok : CtrOk F.S (lookC l0) := lookC_ok fun p h => by simp [l0] at h
theorem put_ok (c : Int) (l : List P) (t p : Int) : Go.Sy.Tree.holds (entryX F (lookC l0) 200 Tryd.f29 b29 ⟨[], .iface 73 (.ptr 0 0), [.cells [.i .i64 t, .i .i64 p, .a (ch c l)]]⟩ [.a (ch c l), .i .i64 t, .i .i64 p]) := by
  obtain ⟨u, a, e, _⟩ := ch_is c l
  rw [e]
  have := put_e u a t p
  unfold putF at this
  rw [this]
  exact ⟨rfl, rfl, rfl, trivial⟩
theorem put_frz (c : Int) (l : List P) (t p : Int) (E' : Env) (n0 : Nat) (H' : Heap) (v : AVal) (hS : SimH (C := cod) E' n0 0 [some (.cells [.i .i64 t, .i .i64 p, .a (ch c l)])] H') (h : Er (C := cod) E' (.iface 73 (.ptr 0 0)) v) :
    frz n0 H' true 64 v = some (ch c (⟨t, p⟩ :: l)) := by
  refine frz_box (ys := [.int .i64 t, .int .i64 p, ch c l]) hS h ?_ ?_
  · intro xs hx
    obtain ⟨a, as1, rfl, h1, hx⟩ := hx.inv_cons
    obtain ⟨b, as2, rfl, h2, hx⟩ := hx.inv_cons
    obtain ⟨d, as3, rfl, h3, hx⟩ := hx.inv_cons
    obtain rfl := hx.inv_nil
    cases h1
    cases h2
    cases h3
    rfl
  · obtain ⟨u, a, e, hf⟩ := ch_is c l
    rw [e]
    have hi : ∀ k m, frz n0 H' false 62 (.int k m) = some (.int k m) := fun k m => by unfold frz; rfl
    simp only [frzs, hi, hf n0 H' 60]
set_option maxRecDepth 10000 in
theorem putOk : CtrOk1 F.S 29 (mkCtr putC) :=
  mkCtrP_ok (fn := Tryd.f29) (body := b29) codOk noExt hookLow l0Ok Tryd.func29 rfl rfl rfl putD putZ 200 (fun _ => []) (show 3 ≤ 15 by decide) (show 15 ≤ 512 by decide) (by kernel_rfl)
    (fun x hp => put_ok x.1.1 x.1.2 x.2.1 x.2.2.1) (fun x hp p hm => by cases hm)
    (fun x hp E' n0 H' v hS h => put_frz x.1.1 x.1.2 x.2.1 x.2.2.1 E' n0 H' v hS h)
theorem l1Ok : CtrOk F.S (lookC l1) := lookC_ok fun p h => by
  simp only [l1, List.mem_cons, List.not_mem_nil, or_false] at h
  rcases h with rfl | rfl | rfl
  · exact putOk
  · exact readOk
  · exact splitOk

theorem par_e_ok (s : List UInt8) (h1 : s.length < 4294967281) : Go.Sy.Tree.holds (entryX F (lookC l1) 200 Tryd.f13 b13 (parseF s) [.s s]) := by
  rw [par_e]
  refine ⟨fun h => ?_, fun h => ?_⟩
  · simp only [gt_iff_lt, decide_eq_true_eq] at h
    have e : parseS s = ([], ch 4 [⟨-1, 0⟩]) := by unfold parseS; rw [if_pos (by omega)]
    rw [e]
    exact ⟨(4, []), rfl, trivial, rfl, rfl, trivial⟩
  · exact ⟨h1, ⟨0, []⟩, rfl, rfl, rfl, rfl, ⟨Nat.zero_le _, rfl, Nat.zero_le _, by simp only [gt_iff_lt, decide_eq_false_iff_not] at h; omega⟩, trivial⟩
theorem par_c_ok (s : List UInt8) (h1 : s.length < 4294967281) (h2 : s.length ≤ 20000 → ∀ l ∈ splitL 10 s, l ≠ [] → l ∈ lines) (x : ParS)
    (hI : x.k ≤ (splitL 10 s).length ∧ parseL ((splitL 10 s).drop x.k) x.k x.q = parseL (splitL 10 s) 0 [] ∧ x.q.length ≤ 48 ∧ s.length ≤ 20000) (hl : (splitL 10 s).length ≤ 20001) : Go.Sy.Tree.holds (cutVC F (lookC l1) 200 Tryd.f13 b13 (parseF s) 5 (parseC s) x) := by
  obtain ⟨k, q⟩ := x
  obtain ⟨hk, hp, hq, hs⟩ := hI
  simp only at hk hp hq
  have e0 : parseS s = parseL (splitL 10 s) 0 [] := by unfold parseS; rw [if_neg (by omega)]
  have h2 := h2 hs
  rw [par_c, e0]
  refine ⟨fun h => ?_, fun h => ?_⟩
  · simp only [decide_eq_true_eq] at h
    have hlt : k < (splitL 10 s).length := by omega
    rw [at3_get hlt]
    have hw : IntKind.wrap .i64 ((k : Int) + 1) = (k : Int) + 1 := wrap64 (by omega) (by omega)
    rw [hw]
    rw [List.drop_eq_getElem_cons hlt] at hp
    have hin := h2 _ (List.getElem_mem hlt)
    generalize (splitL 10 s)[k] = l at hp hin ⊢
    refine ⟨⟨by omega, h⟩, fun he => ?_, fun he => ?_⟩
    · have he : l = [] := by simpa using he
      refine ⟨⟨k + 1, q⟩, rfl, rfl, rfl, by simp, ⟨(show k + 1 ≤ _ by omega), ?_, hq, hs⟩, by simp only; omega, trivial⟩
      rw [parseL, if_pos he] at hp
      exact hp
    · have he : l ≠ [] := by simpa using he
      rw [parseL, if_neg he] at hp
      refine ⟨fun hn => ?_, fun hn => ⟨hin he, fun ho => ⟨?_, ⟨k + 1, _⟩, rfl, rfl, rfl, by simp, ⟨(show k + 1 ≤ _ by omega), ?_, ?_, hs⟩, by simp only; omega, trivial⟩, fun ho => ⟨fun _ => ?_, nofun⟩⟩⟩
      · simp only [ge_iff_le, decide_eq_true_eq] at hn
        rw [if_pos (by omega)] at hp
        rw [← hp]
        exact ⟨(4, []), rfl, trivial, rfl, rfl, trivial⟩
      · simp only [List.length_cons, List.length_nil]; omega
      · simp only [ge_iff_le, decide_eq_false_iff_not] at hn
        rw [if_neg (by omega), if_pos ho] at hp
        exact hp
      · simp only [ge_iff_le, decide_eq_false_iff_not] at hn
        simp only [List.length_append, List.length_cons, List.length_nil]
        omega
      · simp only [ge_iff_le, decide_eq_false_iff_not] at hn
        rw [if_neg (by omega), if_neg (by rw [ho]; decide)] at hp
        rw [← hp]
        exact ⟨(3, []), rfl, trivial, rfl, rfl, trivial⟩
  · simp only [decide_eq_false_iff_not] at h
    obtain rfl : k = (splitL 10 s).length := by omega
    rw [List.drop_length, parseL] at hp
    rw [← hp]
    exact ⟨rfl, rfl, trivial⟩
theorem splitL_length (c : UInt8) : ∀ s : List UInt8, (splitL c s).length ≤ s.length + 1
  | [] => Nat.le_refl _
  | b :: s => by
    have ih := splitL_length c s
    unfold splitL
    split
    · simp only [List.length_cons]; omega
    · split
      · simp only [List.length_cons, List.length_nil]; omega
      · rename_i h
        rw [h] at ih
        simp only [List.length_cons] at ih ⊢
        omega
set_option maxRecDepth 10000 in
theorem parseOk : CtrOk1 F.S 13 (mkCtr parseD) :=
  mkCtr_ok (fn := Tryd.f13) (body := b13) codOk noExt hookLow l1Ok Tryd.func13 rfl rfl rfl parseD 200 (fun (x : List UInt8 × Unit) => [(5, parseC x.1)]) (show 1 ≤ 49 by decide) (show 49 ≤ 512 by decide) (by kernel_rfl) (fun _ _ => ⟨rfl, rfl⟩)
    (fun x hp => par_e_ok x.1 hp.1)
    (fun (x : List UInt8 × Unit) hp p hm s hI => by
      have hm : p = (5, parseC x.1) := by simpa using hm
      subst hm
      exact par_c_ok x.1 hp.1 hp.2 s hI (by have := splitL_length 10 x.1; have := hI.2.2.2; omega))
end Go.Proofs.YtbbbpnaghipfmaaDoor

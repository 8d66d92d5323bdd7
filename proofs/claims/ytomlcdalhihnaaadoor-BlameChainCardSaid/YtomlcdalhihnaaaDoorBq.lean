/- syncopelaw1.BlameChain: what its own text owes is paid. -/
import Derived.Test.YtomlcdalhihnaaaDoorBe
import Derived.Test.YtomlcdalhihnaaaDoorBp
namespace Go.Proofs.YtomlcdalhihnaaaDoor
open Go.RowKit Go.Am Go.Sy
set_option linter.unusedVariables false

theorem bc_e (c : Int) (l : List P) : Go.Sy.Tree.holds (entryX F (lookC l5) 200 Tryd.f7 b7 (chainL c l) [.i .i64 c, .tl (T := T) 1 l]) = (
(decide ((↑l.length : Int) > (20 : Int)) = true → true = true ∧ True) ∧
  (decide ((↑l.length : Int) > (20 : Int)) = false →
    chainD.pre (IntKind.i64.wrap ((1 : Int) + IntKind.i64.wrap ((IntKind.u64.wrap c).tmod (10 : Int))), l, ()) ∧
      ∃ (s : ErS),
        c = c ∧
          l = l ∧
            ch (IntKind.i64.wrap ((1 : Int) + IntKind.i64.wrap ((IntKind.u64.wrap c).tmod (10 : Int)))) l = s.e ∧
              (s.e = ch (cd c) l ∧ l.length ≤ (20 : Nat)) ∧ True)) := by kernel_rfl
theorem bc_4 (c : Int) (l m : List P) (u : TypeId) (a : AVal) : Go.Sy.Tree.holds (cutVC F (lookC l5) 200 Tryd.f7 b7 (chainL c l) 4 (chainC4 c l) ⟨.iface u a, m⟩) = (
∃ (y : Int × List P),
  AVal.iface u a = ch y.fst y.snd ∧
    whereD.pre (y, ()) ∧
      ((!hdB y.snd == decide ((↑l.length : Int) > (0 : Int))) = true → false = true ∧ True) ∧
        ((!hdB y.snd == decide ((↑l.length : Int) > (0 : Int))) = false →
          (hdB y.snd = true →
              ((0 : Int) ≤ (0 : Int) ∧ (0 : Int) < (↑l.length : Int)) ∧
                ((hdT y.snd != (at1 l (0 : Int)).t) = true → false = true ∧ True) ∧
                  ((hdT y.snd != (at1 l (0 : Int)).t) = false →
                    ((0 : Int) ≤ (0 : Int) ∧ (0 : Int) < (↑l.length : Int)) ∧
                      ((hdP y.snd != (at1 l (0 : Int)).p) = true → false = true ∧ True) ∧
                        ((hdP y.snd != (at1 l (0 : Int)).p) = false →
                          ((!hdB y.snd) = true →
                              ((hdT y.snd != (0 : Int)) = true → false = true ∧ True) ∧
                                ((hdT y.snd != (0 : Int)) = false →
                                  ((hdP y.snd != (0 : Int)) = true → false = true ∧ True) ∧
                                    ((hdP y.snd != (0 : Int)) = false →
                                      ∃ (y : Int × List P),
                                        AVal.iface u a = ch y.fst y.snd ∧
                                          trailD.pre (y, ()) ∧
                                            (((↑(List.map P.p y.snd).length : Int) != (↑l.length : Int)) = true →
                                                false = true ∧ True) ∧
                                              (((↑(List.map P.p y.snd).length : Int) != (↑l.length : Int)) = false →
                                                ∃ (s : Nat),
                                                  c = c ∧
                                                    l = l ∧
                                                      AVal.iface u a = ch (cd c) l ∧
                                                        List.map P.p y.snd = List.map P.p l ∧
                                                          (0 : Int) = (↑s : Int) ∧
                                                            (s ≤ l.length ∧ l.length ≤ (20 : Nat)) ∧
                                                              l.length - s < (100 : Nat) ∧ True)))) ∧
                            ((!hdB y.snd) = false →
                              ∃ (y : Int × List P),
                                AVal.iface u a = ch y.fst y.snd ∧
                                  trailD.pre (y, ()) ∧
                                    (((↑(List.map P.p y.snd).length : Int) != (↑l.length : Int)) = true →
                                        false = true ∧ True) ∧
                                      (((↑(List.map P.p y.snd).length : Int) != (↑l.length : Int)) = false →
                                        ∃ (s : Nat),
                                          c = c ∧
                                            l = l ∧
                                              AVal.iface u a = ch (cd c) l ∧
                                                List.map P.p y.snd = List.map P.p l ∧
                                                  (0 : Int) = (↑s : Int) ∧
                                                    (s ≤ l.length ∧ l.length ≤ (20 : Nat)) ∧
                                                      l.length - s < (100 : Nat) ∧ True))))) ∧
            (hdB y.snd = false →
              ((!hdB y.snd) = true →
                  ((hdT y.snd != (0 : Int)) = true → false = true ∧ True) ∧
                    ((hdT y.snd != (0 : Int)) = false →
                      ((hdP y.snd != (0 : Int)) = true → false = true ∧ True) ∧
                        ((hdP y.snd != (0 : Int)) = false →
                          ∃ (y : Int × List P),
                            AVal.iface u a = ch y.fst y.snd ∧
                              trailD.pre (y, ()) ∧
                                (((↑(List.map P.p y.snd).length : Int) != (↑l.length : Int)) = true →
                                    false = true ∧ True) ∧
                                  (((↑(List.map P.p y.snd).length : Int) != (↑l.length : Int)) = false →
                                    ∃ (s : Nat),
                                      c = c ∧
                                        l = l ∧
                                          AVal.iface u a = ch (cd c) l ∧
                                            List.map P.p y.snd = List.map P.p l ∧
                                              (0 : Int) = (↑s : Int) ∧
                                                (s ≤ l.length ∧ l.length ≤ (20 : Nat)) ∧
                                                  l.length - s < (100 : Nat) ∧ True)))) ∧
                ((!hdB y.snd) = false →
                  ∃ (y : Int × List P),
                    AVal.iface u a = ch y.fst y.snd ∧
                      trailD.pre (y, ()) ∧
                        (((↑(List.map P.p y.snd).length : Int) != (↑l.length : Int)) = true → false = true ∧ True) ∧
                          (((↑(List.map P.p y.snd).length : Int) != (↑l.length : Int)) = false →
                            ∃ (s : Nat),
                              c = c ∧
                                l = l ∧
                                  AVal.iface u a = ch (cd c) l ∧
                                    List.map P.p y.snd = List.map P.p l ∧
                                      (0 : Int) = (↑s : Int) ∧
                                        (s ≤ l.length ∧ l.length ≤ (20 : Nat)) ∧ l.length - s < (100 : Nat) ∧ True))))) := by kernel_rfl
theorem bc_13 (c : Int) (l : List P) (i : Nat) : Go.Sy.Tree.holds (cutVC F (lookC l5) 200 Tryd.f7 b7 (chainL c l) 13 (chainC13 c l) i) = (
(decide ((↑i : Int) < (↑l.length : Int)) = true →
    ((0 : Int) ≤ (↑i : Int) ∧ (↑i : Int) < (↑(List.map P.p l).length : Int)) ∧
      ((0 : Int) ≤ (↑i : Int) ∧ (↑i : Int) < (↑(List.map P.p l).length : Int)) ∧
        ((0 : Int) ≤ (↑i : Int) ∧ (↑i : Int) < (↑l.length : Int)) ∧
          ((at0 (List.map P.p l) (↑i : Int) != (at1 l (↑i : Int)).p) = true → false = true ∧ True) ∧
            ((at0 (List.map P.p l) (↑i : Int) != (at1 l (↑i : Int)).p) = false →
              ∃ (s : Nat),
                c = c ∧
                  l = l ∧
                    ch (cd c) l = ch (cd c) l ∧
                      List.map P.p l = List.map P.p l ∧
                        IntKind.i64.wrap ((↑i : Int) + (1 : Int)) = (↑s : Int) ∧
                          (s ≤ l.length ∧ l.length ≤ (20 : Nat)) ∧ l.length - s < l.length - i ∧ True)) ∧
  (decide ((↑i : Int) < (↑l.length : Int)) = false →
    ∃ (y : Int × List P),
      ch (cd c) l = ch y.fst y.snd ∧
        codeD.pre (y, ()) ∧
          (y.fst == IntKind.i64.wrap ((1 : Int) + IntKind.i64.wrap ((IntKind.u64.wrap c).tmod (10 : Int)))) = true ∧
            True)) := by kernel_rfl

theorem cd_is (c : Int) : 1 ≤ cd c ∧ cd c ≤ 10 := by
  have h := Int.emod_nonneg (IntKind.u64.wrap c) (b := 10) (by decide)
  have h2 := Int.emod_lt_of_pos (IntKind.u64.wrap c) (b := 10) (by decide)
  have h0 : 0 ≤ IntKind.u64.wrap c := by
    simp only [IntKind.wrap, IntKind.signed, IntKind.bits]
    simp
    omega
  have e : (IntKind.u64.wrap c).tmod 10 = IntKind.u64.wrap c % 10 := Int.tmod_eq_emod_of_nonneg h0
  unfold cd
  rw [e, wrap64 (n := IntKind.u64.wrap c % 10) (by omega) (by omega), wrap64 (by omega) (by omega)]
  omega
theorem l5Ok : CtrOk F.S (lookC l5) := lookC_ok fun p h => by
  simp only [l5, List.mem_cons, List.not_mem_nil, or_false] at h
  rcases h with rfl | rfl | rfl | rfl | rfl
  · exact toldCtr_ok rfl
  · exact chainOk
  · exact whereOk
  · exact trailOk
  · exact codeOk
theorem bc_e_ok (c : Int) (l : List P) : Go.Sy.Tree.holds (entryX F (lookC l5) 200 Tryd.f7 b7 (chainL c l) [.i .i64 c, .tl (T := T) 1 l]) := by
  rw [bc_e]
  refine ⟨fun _ => ⟨rfl, trivial⟩, fun h => ?_⟩
  have h : l.length ≤ 20 := by simp at h; omega
  exact ⟨⟨(cd_is c).1, (cd_is c).2, h⟩, ⟨ch (cd c) l, l⟩, rfl, rfl, rfl, ⟨rfl, h⟩, trivial⟩
theorem bc_4_ok (c : Int) (l : List P) (s : ErS) (hI : s.e = ch (cd c) l ∧ l.length ≤ 20) : Go.Sy.Tree.holds (cutVC F (lookC l5) 200 Tryd.f7 b7 (chainL c l) 4 (chainC4 c l) s) := by
  obtain ⟨e, m⟩ := s
  have h20 : l.length ≤ 20 := hI.2
  replace hI : e = ch (cd c) l := hI.1
  obtain ⟨u, a, e1, _⟩ := ch_is (cd c) l
  rw [e1] at hI
  subst hI
  rw [bc_4]
  have fin : ∃ (y : Int × List P), AVal.iface u a = ch y.fst y.snd ∧ trailD.pre (y, ()) ∧
      (((↑(List.map P.p y.snd).length : Int) != (↑l.length : Int)) = true → false = true ∧ True) ∧
      (((↑(List.map P.p y.snd).length : Int) != (↑l.length : Int)) = false →
        ∃ (s : Nat), c = c ∧ l = l ∧ AVal.iface u a = ch (cd c) l ∧ List.map P.p y.snd = List.map P.p l ∧ (0 : Int) = (↑s : Int) ∧ (s ≤ l.length ∧ l.length ≤ (20 : Nat)) ∧ l.length - s < (100 : Nat) ∧ True) :=
    ⟨(cd c, l), e1.symm, h20, fun h => by simp at h, fun h => ⟨0, rfl, rfl, e1.symm, rfl, rfl, ⟨Nat.zero_le _, h20⟩, by omega, trivial⟩⟩
  refine ⟨(cd c, l), e1.symm, trivial, ?_⟩
  clear e1
  cases l with
  | nil => exact ⟨fun h => by simp [hdB] at h, fun _ => ⟨nofun, fun _ => ⟨fun _ => ⟨fun h => by simp [hdT] at h, fun _ => ⟨fun h => by simp [hdP] at h, fun _ => fin⟩⟩, nofun⟩⟩⟩
  | cons x l =>
    have e0 : at1 (x :: l) 0 = x := rfl
    rw [e0]
    exact ⟨fun h => by simp [hdB] at h, fun _ => ⟨fun _ => ⟨⟨Int.le_refl _, by simp⟩, fun h => by simp [hdT] at h, fun _ => ⟨⟨Int.le_refl _, by simp⟩, fun h => by simp [hdP] at h, fun _ => ⟨nofun, fun _ => fin⟩⟩⟩, nofun⟩⟩
theorem bc_13_ok (c : Int) (l : List P) (i : Nat) (hI : i ≤ l.length ∧ l.length ≤ 20) : Go.Sy.Tree.holds (cutVC F (lookC l5) 200 Tryd.f7 b7 (chainL c l) 13 (chainC13 c l) i) := by
  have h1 := hI.1
  have h20 : l.length ≤ 20 := hI.2
  clear hI
  rw [bc_13]
  refine ⟨fun h => ?_, fun h => ⟨(cd c, l), rfl, cd_is c, by simp [cd], trivial⟩⟩
  have hi : i < l.length := by simpa using h
  have e : at1 l (i : Int) = l[i] := at1_get hi
  have e2 : at0 (l.map P.p) (i : Int) = l[i].p := (at0_get (by rw [List.length_map]; exact hi)).trans (by simp)
  rw [e, e2, List.length_map]
  exact ⟨⟨by omega, by omega⟩, ⟨by omega, by omega⟩, ⟨by omega, by omega⟩, fun h => by simp at h, fun _ => ⟨i + 1, rfl, rfl, rfl, rfl, succ64 (by omega), ⟨by omega, h20⟩, by omega, trivial⟩⟩
set_option maxRecDepth 10000 in
theorem bc_cuts (c : Int) (l : List P) : ∀ p, p ∈ [(4, chainC4 c l), (13, chainC13 c l)] → ∀ s, p.2.I s → (cutVC F (lookC l5) 200 Tryd.f7 b7 ⟨[(4, chainC4 c l), (13, chainC13 c l)], .b true, []⟩ p.1 p.2 s).holds := by
  intro p hm s hI
  simp only [List.mem_cons, List.not_mem_nil, or_false] at hm
  rcases hm with rfl | rfl
  · exact bc_4_ok c l s hI
  · exact bc_13_ok c l s hI
set_option maxRecDepth 10000 in
theorem chain_run (c : Int) (l : List P) {av : List AVal} (hA : Ers (C := cod) (away []) [.i .i64 c, .tl (T := T) 1 l] av) : ∃ n H', runA S n 0 7 av [] = some (.bool true, H') :=
  law_runs (F := F) (fn := Tryd.f7) (body := b7) (args := [.i .i64 c, .tl (T := T) 1 l]) codOk noExt hookLow l5Ok Tryd.func7 rfl rfl rfl 200 [(4, chainC4 c l), (13, chainC13 c l)] (show 2 ≤ 94 by decide) (show 94 ≤ 512 by decide) (by kernel_rfl) (bc_e_ok c l) (bc_cuts c l) hA
end Go.Proofs.YtomlcdalhihnaaaDoor

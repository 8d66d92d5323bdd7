/- Tl2Alone: what its calls answer, its run. -/
import Derived.Test.YtmjjljngaefpaaaA1
import Derived.Test.YtmjjljngaefpaaaA2
import Derived.Test.YtmjjljngaefpaaaA3
import Derived.Test.YtmjjljngaefpaaaA4
import Derived.Test.YtmjjljngaefpaaaA5
namespace Go.Proofs.Ytmjjljngaefpaaa
open Go.RowKit Go.Am Go.Sy
set_option linter.unusedVariables false
set_option linter.unusedSimpArgs false
theorem keys_e (s : Rs) : Go.Sy.Tree.holds (entryX F (lookC []) 400 Try.f60 b60 (keysF s.ls) [.fp (enc5 s)]) = ( ∃ (s_1 : Nat), [] = List.map (fun (x : Wo) => x.pl) (List.take s_1 s.ls) ∧ s.ls = s.ls ∧ (↑s.ls.length :
 Int) = (↑s.ls.length : Int) ∧ (0 : Int) = (↑s_1 : Int) ∧ s_1 ≤ s.ls.length ∧ True) := by kernel_rfl
theorem keys_4 (l : List Wo) (i : Nat) : Go.Sy.Tree.holds (cutVC F (lookC []) 400 Try.f60 b60 (keysF l) 4 (keysC l) i) = ( (decide ((↑i : Int) < (↑l.length : Int)) = true → ((0 : Int) ≤ (↑i : Int) ∧ (↑i : Int) <
 (↑l.length : Int)) ∧ ((List.map (fun (x : Wo) => x.pl) (List.take i l)).length + [(at3 l (↑i : Int)).pl].length) * 8 ≤ 140737488355328 ∧ ∃ (s : Nat), List.map (fun (x : Wo) => x.pl) (List.take i l) ++ [(at3 l (↑i :
 Int)).pl] = List.map (fun (x : Wo) => x.pl) (List.take s l) ∧ l = l ∧ (↑l.length : Int) = (↑l.length : Int) ∧ IntKind.i64.wrap ((↑i : Int) + 1) = (↑s : Int) ∧ s ≤ l.length ∧ l.length - s < l.length - i ∧ True) ∧ (decide
 ((↑i : Int) < (↑l.length : Int)) = false → List.map (fun (x : Wo) => x.pl) (List.take i l) = List.map (fun (x : Wo) => x.pl) l ∧ True)) := by kernel_rfl
theorem keys_e_ok (s : Rs) : Paid (entryX F (lookC []) 400 Try.f60 b60 (keysF s.ls) [.fp (enc5 s)]) := by
  refine ⟨?_⟩
  rw [keys_e]
  exact ⟨0, rfl, rfl, rfl, rfl, Nat.zero_le _, trivial⟩
theorem keys_4_ok (l : List Wo) (hl : l.length ≤ 1000) (i : Nat) (hi : i ≤ l.length) : Paid (cutVC F (lookC []) 400 Try.f60 b60 (keysF l) 4 (keysC l) i) := by
  refine ⟨?_⟩
  rw [keys_4]
  refine ⟨fun h => ?_, fun h => ?_⟩
  · simp only [decide_eq_true_eq] at h
    have hlt : i < l.length := by omega
    rw [at3_get hlt]
    refine ⟨⟨by omega, h⟩, ?_, i + 1, ?_, rfl, rfl, by rw [wrap64 (by omega) (by omega)]; rfl, hlt, by omega, trivial⟩
    · simp only [List.length_map, List.length_take, List.length_cons, List.length_nil]; omega
    · rw [List.take_succ_eq_append_getElem hlt, List.map_append]; rfl
  · simp only [decide_eq_false_iff_not] at h
    rw [List.take_of_length_le (by omega)]
    exact ⟨rfl, trivial⟩
theorem keysOk : CtrOk1 F.S 60 (mkCtr keysD) :=
  mkCtr_paid (fn := Try.f60) (body := b60) (ctr := lookC []) codOk noExt hookLow noneOk Try.func60 rfl rfl (by kernel_rfl) keysD 400 (fun (x : Rs × Unit) => [(4, keysC x.1.ls)]) (show 1 ≤ Try.f60.ntmps by decide) (show Try.f60.ntmps ≤ 512 by decide) (by kernel_rfl) (fun _ _ => ⟨rfl, rfl⟩)
    (fun (x : Rs × Unit) h => keys_e_ok x.1) (fun (x : Rs × Unit) h q hm s hI => by
      simp only [List.mem_singleton] at hm
      subst hm
      exact keys_4_ok x.1.ls h s hI)
theorem holderCtrOk : CtrOk1 F.S 90 holderCtr := by
  intro E lo wlo args h H K av hh hS hA
  unfold holderCtr at hh
  obtain ⟨x, ⟨hp, hK⟩, hAx⟩ := takeAll_ok codOk hS hA hh
  have hh2 : (takeAll h [.int .i64] args fun (y : Int × Unit) => .need (y.1 = 0 ∨ y.1 = 2) (.fork (y.1 == 0) (K (.a (.int .i64 (-1))) h) (K (.a (.int .i64 1)) h))).holds := hh
  have hm : (mkCtr holderD wlo args h fun sv h' => .need (h' = h ∧ ((sv = .i .i64 (-1) ∧ (K (.a (.int .i64 (-1))) h).holds) ∨ (sv = .i .i64 1 ∧ (K (.a (.int .i64 1)) h).holds))) .ok).holds := by
    refine takeAll_mono ?_ hh2
    refine (fun (y : Int × Unit) hy => ?_ : ∀ y : Int × Unit, _)
    obtain ⟨a, u⟩ := y
    obtain ⟨q1, q2⟩ := hy
    refine ⟨q1, ?_⟩
    have q1 : (a : Int) = (0 : Int) ∨ (a : Int) = (2 : Int) := q1
    have q2 : (Tree.fork ((a : Int) == (0 : Int)) (K (.a (.int .i64 (-1))) h) (K (.a (.int .i64 1)) h)).holds := q2
    refine ⟨⟨List.append_nil _, ?_⟩, trivial⟩
    rcases q1 with rfl | rfl
    · exact .inl ⟨rfl, q2.1 rfl⟩
    · exact .inr ⟨rfl, q2.2 rfl⟩
  obtain ⟨v, H', sv, h', E', g1, g2, g3, g4, g5, g6, g7⟩ := holderOk E lo wlo args h H _ av hm hS hA
  obtain ⟨⟨rfl, k⟩, _⟩ := g7
  rcases k with ⟨rfl, k⟩ | ⟨rfl, k⟩
  · cases g6
    exact ⟨_, H', .a (.int .i64 (-1)), h', E', g1, g2, g3, g4, g5, .a _, k⟩
  · cases g6
    exact ⟨_, H', .a (.int .i64 1), h', E', g1, g2, g3, g4, g5, .a _, k⟩
theorem lNOk : CtrOk F.S (lookC lN) := lookC_ok fun p h => by
  simp only [lN, List.mem_cons, List.not_mem_nil, or_false] at h
  rcases h with rfl | rfl | rfl | rfl | rfl | rfl | rfl | rfl | rfl | rfl | rfl | rfl | rfl | rfl | rfl | rfl | rfl | rfl | rfl | rfl | rfl | rfl
  · exact dataOk
  · exact stripeOk
  · exact threadOk
  · exact seqOk
  · exact clockOk
  · exact sizeOk
  · exact badOk
  · exact mayOk
  · exact hashOk
  · exact roomOk
  · exact valueOk
  · exact freshOk
  · exact atOk
  · exact rowsOk
  · exact placesOk
  · exact bitOk
  · exact findOk
  · exact hasOk
  · exact holderCtrOk
  · exact versionOk
  · exact takenOk
  · exact freeOk
theorem lAOk (p : List Op) : CtrOk F.S (lookC (lA p)) := lookC_ok fun q h => by
  have h := List.mem_append.1 h
  rcases h with h | h
  · simp only [List.mem_cons, List.not_mem_nil, or_false] at h
    rcases h with rfl | rfl | rfl
    · exact toldCtr_ok rfl
    · exact keysOk
    · exact loopCtr_ok (fn := Try.f12) (body := b12) codOk noExt hookLow lNOk Try.func12 rfl rfl (by kernel_rfl) 2000 (famZ p) selN (by kernel_rfl)
  · simp only [lN, List.mem_cons, List.not_mem_nil, or_false] at h
    rcases h with rfl | rfl | rfl | rfl | rfl | rfl | rfl | rfl | rfl | rfl | rfl | rfl | rfl | rfl | rfl | rfl | rfl | rfl | rfl | rfl | rfl | rfl
    · exact dataOk
    · exact stripeOk
    · exact threadOk
    · exact seqOk
    · exact clockOk
    · exact sizeOk
    · exact badOk
    · exact mayOk
    · exact hashOk
    · exact roomOk
    · exact valueOk
    · exact freshOk
    · exact atOk
    · exact rowsOk
    · exact placesOk
    · exact bitOk
    · exact findOk
    · exact hasOk
    · exact holderCtrOk
    · exact versionOk
    · exact takenOk
    · exact freeOk
theorem al_run (cl : Int) (l : List Op) {av : List AVal} (hA : Ers (C := cod) (away []) [.i .i64 cl, .tl (T := T) 2 l] av) : ∃ m H', runA S m 0 6 av [] = some (.bool true, H') :=
  law_runsS (F := F) (fn := Try.f6) (body := b6) (args := [.i .i64 cl, .tl (T := T) 2 l]) codOk noExt hookLow (lAOk (l.map opT)) Try.func6 rfl rfl (by kernel_rfl) 3000 (cutsA l (l.map opT) cl) selA (show 2 ≤ Try.f6.ntmps by decide) (show Try.f6.ntmps ≤ 512 by decide) (by kernel_rfl)
    (al_e_ok l (l.map opT) cl) (fun q hm s hI => by
    simp only [cutsA, List.mem_cons, List.not_mem_nil, or_false] at hm
    rcases hm with rfl | rfl | rfl | rfl | rfl | rfl | rfl | rfl | rfl | rfl | rfl | rfl | rfl | rfl | rfl | rfl | rfl | rfl | rfl | rfl | rfl | rfl | rfl | rfl | rfl | rfl | rfl | rfl | rfl | rfl | rfl | rfl | rfl | rfl | rfl | rfl | rfl | rfl | rfl | rfl | rfl | rfl | rfl | rfl | rfl | rfl | rfl
    · exact al_9_ok l cl s hI
    · exact al_k1_ok l (l.map opT) cl s hI
    · exact al_k2_ok l (l.map opT) cl s hI
    · exact al_k3_ok l (l.map opT) cl s hI
    · exact al_k4_ok l (l.map opT) cl s hI
    · exact al_k5_ok l (l.map opT) cl s hI
    · exact al_k6_ok l (l.map opT) cl s hI
    · exact al_k7_ok l (l.map opT) cl s hI
    · exact al_k8_ok l (l.map opT) cl s hI
    · exact al_k9_ok l (l.map opT) cl s hI
    · exact al_k10_ok l (l.map opT) cl s hI
    · exact al_k11_ok l (l.map opT) cl s hI
    · exact al_k12_ok l (l.map opT) cl s hI
    · exact al_k13_ok l (l.map opT) cl s hI
    · exact al_k14_ok l (l.map opT) cl s hI
    · exact al_k15_ok l (l.map opT) cl s hI
    · exact al_k16_ok l (l.map opT) cl s hI
    · exact al_p0_ok l (l.map opT) cl s hI
    · exact al_p1_ok l (l.map opT) cl s hI
    · exact al_p2_ok l (l.map opT) cl s hI
    · exact al_p3_ok l (l.map opT) cl s hI
    · exact al_p4_ok l (l.map opT) cl s hI
    · exact al_c00_ok l (l.map opT) cl s hI
    · exact al_c01_ok l (l.map opT) cl s hI
    · exact al_c02_ok l (l.map opT) cl s hI
    · exact al_c03_ok l (l.map opT) cl s hI
    · exact al_c04_ok l (l.map opT) cl s hI
    · exact al_c10_ok l (l.map opT) cl s hI
    · exact al_c11_ok l (l.map opT) cl s hI
    · exact al_c12_ok l (l.map opT) cl s hI
    · exact al_c13_ok l (l.map opT) cl s hI
    · exact al_c14_ok l (l.map opT) cl s hI
    · exact al_c20_ok l (l.map opT) cl s hI
    · exact al_c21_ok l (l.map opT) cl s hI
    · exact al_c22_ok l (l.map opT) cl s hI
    · exact al_c23_ok l (l.map opT) cl s hI
    · exact al_c24_ok l (l.map opT) cl s hI
    · exact al_c30_ok l (l.map opT) cl s hI
    · exact al_c31_ok l (l.map opT) cl s hI
    · exact al_c32_ok l (l.map opT) cl s hI
    · exact al_c33_ok l (l.map opT) cl s hI
    · exact al_c34_ok l (l.map opT) cl s hI
    · exact al_c40_ok l (l.map opT) cl s hI
    · exact al_c41_ok l (l.map opT) cl s hI
    · exact al_c42_ok l (l.map opT) cl s hI
    · exact al_c43_ok l (l.map opT) cl s hI
    · exact al_c44_ok l (l.map opT) cl s hI) hA
end Go.Proofs.Ytmjjljngaefpaaa

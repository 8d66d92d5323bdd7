/- Tl2Undo: what its calls answer, its run. -/
import Derived.Test.YtmjjljngaefpaaaU1
import Derived.Test.YtmjjljngaefpaaaU2
import Derived.Test.YtmjjljngaefpaaaU3
import Derived.Test.YtmjjljngaefpaaaU4
import Derived.Test.YtmjjljngaefpaaaU5
namespace Go.Proofs.Ytmjjljngaefpaaa
open Go.RowKit Go.Am Go.Sy
set_option linter.unusedVariables false
set_option linter.unusedSimpArgs false

theorem holderCtrOk : CtrOk1 F.S 90 holderCtr := by
  intro E lo wlo args h H K av hh hS hA
  unfold holderCtr at hh
  obtain ⟨x, ⟨hp, hK⟩, hAx⟩ := takeAll_ok codOk hS hA hh
  have hh2 : (takeAll h [.int .i64] args fun (y : Int × Unit) => .need (y.1 = 0 ∨ y.1 = 2) (.fork (y.1 == 0) (K (.a (.int .i64 (-1))) h) (K (.a (.int .i64 1)) h))).holds := hh
  have hm : (mkCtr holderD wlo args h fun sv h' => .need (h' = h ∧ ((sv = .i .i64 (-1) ∧ (K (.a (.int .i64 (-1))) h).holds) ∨ (sv = .i .i64 1 ∧ (K (.a (.int .i64 1)) h).holds))) .ok).holds := by
    refine takeAll_mono ?_ hh2
    refine (fun (y : Int × Unit) hy => ?_ : ∀ y : Int × Unit, _)
    obtain ⟨a, u⟩ := y
    obtain ⟨q1, q2⟩ := hy
    refine ⟨q1, ?_⟩
    have q1 : (a : Int) = (0 : Int) ∨ (a : Int) = (2 : Int) := q1
    have q2 : (Tree.fork ((a : Int) == (0 : Int)) (K (.a (.int .i64 (-1))) h) (K (.a (.int .i64 1)) h)).holds := q2
    refine ⟨⟨List.append_nil _, ?_⟩, trivial⟩
    rcases q1 with rfl | rfl
    · exact .inl ⟨rfl, q2.1 rfl⟩
    · exact .inr ⟨rfl, q2.2 rfl⟩
  obtain ⟨v, H', sv, h', E', g1, g2, g3, g4, g5, g6, g7⟩ := holderOk E lo wlo args h H _ av hm hS hA
  obtain ⟨⟨rfl, k⟩, _⟩ := g7
  rcases k with ⟨rfl, k⟩ | ⟨rfl, k⟩
  · cases g6
    exact ⟨_, H', .a (.int .i64 (-1)), h', E', g1, g2, g3, g4, g5, .a _, k⟩
  · cases g6
    exact ⟨_, H', .a (.int .i64 1), h', E', g1, g2, g3, g4, g5, .a _, k⟩
theorem lNOk : CtrOk F.S (lookC lN) := lookC_ok fun p h => by
  simp only [lN, List.mem_cons, List.not_mem_nil, or_false] at h
  rcases h with rfl | rfl | rfl | rfl | rfl | rfl | rfl | rfl | rfl | rfl | rfl | rfl | rfl | rfl | rfl | rfl | rfl | rfl | rfl | rfl | rfl | rfl
  · exact dataOk
  · exact stripeOk
  · exact threadOk
  · exact seqOk
  · exact clockOk
  · exact sizeOk
  · exact badOk
  · exact mayOk
  · exact hashOk
  · exact roomOk
  · exact valueOk
  · exact freshOk
  · exact atOk
  · exact rowsOk
  · exact placesOk
  · exact bitOk
  · exact findOk
  · exact hasOk
  · exact holderCtrOk
  · exact versionOk
  · exact takenOk
  · exact freeOk
theorem lUOk (p : List Op) : CtrOk F.S (lookC (lU p)) := lookC_ok fun q h => by
  have h := List.mem_append.1 h
  rcases h with h | h
  · simp only [List.mem_cons, List.not_mem_nil, or_false] at h
    rcases h with rfl | rfl
    · exact toldCtr_ok rfl
    · exact loopCtr_ok (fn := Try.f12) (body := b12) codOk noExt hookLow lNOk Try.func12 rfl rfl (by kernel_rfl) 2000 (famN p) selN (by kernel_rfl)
  · simp only [lN, List.mem_cons, List.not_mem_nil, or_false] at h
    rcases h with rfl | rfl | rfl | rfl | rfl | rfl | rfl | rfl | rfl | rfl | rfl | rfl | rfl | rfl | rfl | rfl | rfl | rfl | rfl | rfl | rfl | rfl
    · exact dataOk
    · exact stripeOk
    · exact threadOk
    · exact seqOk
    · exact clockOk
    · exact sizeOk
    · exact badOk
    · exact mayOk
    · exact hashOk
    · exact roomOk
    · exact valueOk
    · exact freshOk
    · exact atOk
    · exact rowsOk
    · exact placesOk
    · exact bitOk
    · exact findOk
    · exact hasOk
    · exact holderCtrOk
    · exact versionOk
    · exact takenOk
    · exact freeOk
theorem un_run (cl : Int) (l : List Op) (w e : Int) {av : List AVal} (hA : Ers (C := cod) (away []) [.i .i64 cl, .tl (T := T) 2 l, .i .i64 w, .i .i64 e] av) : ∃ m H', runA S m 0 4 av [] = some (.bool true, H') :=
  law_runsS (F := F) (fn := Try.f4) (body := b4) (args := [.i .i64 cl, .tl (T := T) 2 l, .i .i64 w, .i .i64 e]) codOk noExt hookLow (lUOk (l.map opT)) Try.func4 rfl rfl (by kernel_rfl) 3000 (cutsU l (l.map opT) cl w e) selU (show 4 ≤ Try.f4.ntmps by decide) (show Try.f4.ntmps ≤ 512 by decide) (by kernel_rfl)
    (un_e_ok l (l.map opT) cl w e) (fun q hm s hI => by
    simp only [cutsU, List.mem_cons, List.not_mem_nil, or_false] at hm
    rcases hm with rfl | rfl | rfl | rfl | rfl | rfl | rfl | rfl | rfl | rfl | rfl | rfl | rfl | rfl | rfl | rfl | rfl | rfl | rfl
    · exact un_9_ok l cl w e s hI
    · exact un_k1_ok l (l.map opT) cl w e s hI
    · exact un_k2_ok l (l.map opT) cl w e s hI
    · exact un_k3_ok l (l.map opT) cl w e s hI
    · exact un_k4_ok l (l.map opT) cl w e s hI
    · exact un_k5_ok l (l.map opT) cl w e s hI
    · exact un_k6_ok l (l.map opT) cl w e s hI
    · exact un_k7_ok l (l.map opT) cl w e s hI
    · exact un_k8_ok l (l.map opT) cl w e s hI
    · exact un_k9_ok l (l.map opT) cl w e s hI
    · exact un_k10_ok l (l.map opT) cl w e s hI
    · exact un_k11_ok l (l.map opT) cl w e s hI
    · exact un_k12_ok l (l.map opT) cl w e s hI
    · exact un_k13_ok l (l.map opT) cl w e s hI
    · exact un_k14_ok l (l.map opT) cl w e s hI
    · exact un_k15_ok l (l.map opT) cl w e s hI
    · exact un_k16_ok l (l.map opT) cl w e s hI
    · exact un_u0_ok l (l.map opT) cl w e s hI
    · exact un_u1_ok l (l.map opT) cl w e s hI) hA
end Go.Proofs.Ytmjjljngaefpaaa

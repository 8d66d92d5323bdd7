/- Tl2Two: what its calls answer, its run. -/
import Derived.Test.YtmjjljngaefpaaaGreatT0
import Derived.Test.YtmjjljngaefpaaaGreatT1
import Derived.Test.YtmjjljngaefpaaaGreatT2
namespace Go.Proofs.YtmjjljngaefpaaaGreat
open Go.RowKit Go.Am Go.Sy
open Go.IntKind (i64 u64)
set_option linter.unusedVariables false
set_option linter.unusedSimpArgs false
theorem lTOk : CtrOk F.S (lookC lT) := lookC_ok fun p h => by
 simp only [lT,qn,qs,or_false] at h
 rcases h with rfl | rfl | rfl | rfl | rfl | rfl | rfl | rfl | rfl | rfl | rfl | rfl | rfl | rfl | rfl | rfl | rfl | rfl | rfl
 ·exact toldCtr_ok rfl
 ·exact xBegOk
 ·exact xComOk
 ·exact xReadOk
 ·exact xWrtOk
 ·exact xStepOk
 ·exact yBegOk
 ·exact yComOk
 ·exact yReadOk
 ·exact yWrtOk
 ·exact yStepOk
 ·exact lkOk
 ·exact sameOk
 ·exact dataOk
 ·exact threadOk
 ·exact sizeOk
 ·exact sizeROk
 ·exact mayROk
 ·exact mayOk
theorem tw_run (cl : Int) (a b : List Op) (l : List Bool) {av : List AVal} (hA : Ers (C := cod) (away []) [.i .i64 cl,.tl (T := T) 2 a,.tl (T := T) 2 b,.tl (T := T) 1 l] av) : ∃ m H',runA S m 0 3 av [] = some (.bool true,H') :=
 law_runsS (F := F) (fn := Tryz.f3) (body := b3) (args := [.i .i64 cl,.tl (T := T) 2 a,.tl (T := T) 2 b,.tl (T := T) 1 l]) codOk noExt hookLow lTOk Tryz.func3 rfl rfl (by kernel_rfl) 3000 (cutsT l [a,b]) selT (show 4 ≤ Tryz.f3.ntmps by decide) (show Tryz.f3.ntmps ≤ 512 by decide) (by kernel_rfl)
  (tw_e_ok cl l a b) (fun q hm s hI => by
  simp only [cutsT,qn,qs,or_false] at hm
  rcases hm with rfl | rfl | rfl | rfl | rfl | rfl
  ·obtain ⟨i,S,z,k,O,zo,ko,aS,bS,aO,bO⟩ := s
   exact tw_0_ok l a b i S z k O zo ko aS bS aO bO hI
  ·obtain ⟨i,S,z,k,O,zo,ko,aS,bS,aO,bO⟩ := s
   exact tw_1f_ok l a b i S z k O zo ko aS bS aO bO hI
  ·obtain ⟨i,S,z,k,O,zo,ko,aS,bS,aO,bO⟩ := s
   exact tw_1t_ok l a b i S z k O zo ko aS bS aO bO hI
  ·obtain ⟨i,S,z,k,O,zo,ko,aS,bS,aO,bO⟩ := s
   exact tw_2f_ok l a b i S z k O zo ko aS bS aO bO hI
  ·obtain ⟨i,S,z,k,O,zo,ko,aS,bS,aO,bO⟩ := s
   exact tw_2t_ok l a b i S z k O zo ko aS bS aO bO hI
  ·obtain ⟨h,hL⟩ := hI
   rcases h with h | h
   ·obtain rfl : s = (1 : Int) := h
    exact tw_61_ok l a b hL
   ·obtain rfl : s = (2 : Int) := h
    exact tw_62_ok l a b hL) hA
end Go.Proofs.YtmjjljngaefpaaaGreat

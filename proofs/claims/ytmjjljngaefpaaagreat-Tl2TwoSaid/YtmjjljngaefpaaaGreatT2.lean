/- Tl2Two: a turn's end. Printed by a program (gen_tw.py). -/
import Derived.Test.YtmjjljngaefpaaaGreatTr
namespace Go.Proofs.YtmjjljngaefpaaaGreat
open Go.RowKit Go.Am Go.Sy
open Go.IntKind (i64 u64)
set_option linter.unusedVariables false
theorem tw_2f (l : List Bool) (a b : List Op) (i : Nat) (S : XM) (z : Int) (k : Nat) (O : XM) (zo : Int) (ko : Nat) (aS bS aO bO : Int) : Go.Sy.Tree.holds (cT l [a,b] 41 (k2 l [a,b] false) ⟨i,S,z,k,O,zo,ko,aS,
 bS,aO,bO⟩) = (∃ (s : (lkD SB).St),Eqs (R26 S s.fst) (Eqs (R25 S s.snd.snd.snd) (Eqs (R24 (yz S z k) s.snd.snd.snd) (Eqs (R23 S s.fst) (((lkD SB).I s) ∧ (∀ (y : XM × YM),(y = (s.fst,s.snd.snd.snd)) → ((decide (aS >
 i64.wrap ((↑a.length : Int) + 1)) = true) → (((bS == 0) = true) → ∃ (s : LS),Eqs (A4 y s O zo ko l) (((0 : Int) = s.aS) ∧ (aO = s.aO) ∧ (bS = s.bS) ∧ (bO = s.bO) ∧ K3 s i a b l)) ∧ (((bS == 0) = false) → ∃ (s : LS),Eqs (A4 y s O zo ko l) ((aS = s.aS) ∧ (aO = s.aO) ∧ (bS = s.bS) ∧ (bO = s.bO) ∧ K3 s i a b l))) ∧ ((decide (aS > i64.wrap ((↑a.length : Int) + 1)) = false) → ∃ (s : LS),Eqs
 (A4 y s O zo ko l) ((aS = s.aS) ∧ (aO = s.aO) ∧ (bS = s.bS) ∧ (bO = s.bO) ∧ K3 s i a b l))) ∧ True))))) := by kernel_rfl
set_option maxHeartbeats 4000000 in
theorem tw_2f_ok (l : List Bool) (a b : List Op) (i : Nat) (S : XM) (z : Int) (k : Nat) (O : XM) (zo : Int) (ko : Nat) (aS bS aO bO : Int) (hI : (k2 l [a,b] false).I ⟨i,S,z,k,O,zo,ko,aS,bS,aO,bO⟩) : Paid (cT l
 [a,b] 41 (k2 l [a,b] false) ⟨i,S,z,k,O,zo,ko,aS,bS,aO,bO⟩) := by
  refine ⟨?_⟩
  rw [tw_2f l a b i S z k O zo ko aS bS aO bO]
  exact ⟨(S,z,k,yz S z k),qq (qq (qq (qq (⟨⟨hI.1.S.sb,rfl⟩,fun y hy => by
   obtain rfl := hy
   exact ⟨fun h2 => ⟨fun h3 => ⟨⟨i + 1,S,z,k,O,zo,ko,(0 : Int),bS,aO,bO⟩,qq (⟨rfl,rfl,rfl,rfl,rfl,rfl,(wN (lt_big hI.2.1 hI.2.2.1)),⟨(li_end1 hI.1 hI.2.2.2.1 h2 h3),hI.2.1,hI.2.2⟩,(msr2 hI.2.1 hI.2.2.1),trivial⟩)⟩,fun h4 => ⟨⟨i + 1,S,z,k,O,zo,ko,aS,bS,aO,bO⟩,qq (⟨rfl,rfl,rfl,rfl,rfl,rfl,(wN (lt_big hI.2.1 hI.2.2.1)),⟨(li_end2 hI.1 hI.2.2.2.1 h2 h4),hI.2.1,hI.2.2⟩,(msr2 hI.2.1 hI.2.2.1),trivial⟩)⟩⟩,fun h5 => ⟨⟨i + 1,S,z,k,O,zo,ko,aS,bS,aO,bO⟩,qq (⟨rfl,rfl,rfl,rfl,rfl,rfl,(wN (lt_big hI.2.1 hI.2.2.1)),⟨(li_end0 hI.1 hI.2.2.2.1 h5),hI.2.1,hI.2.2⟩,(msr2 hI.2.1 hI.2.2.1),trivial⟩)⟩⟩,trivial⟩))))⟩
theorem tw_2t (l : List Bool) (a b : List Op) (i : Nat) (S : XM) (z : Int) (k : Nat) (O : XM) (zo : Int) (ko : Nat) (aS bS aO bO : Int) : Go.Sy.Tree.holds (cT l [a,b] 41 (k2 l [a,b] true) ⟨i,S,z,k,O,zo,ko,aS,bS,
 aO,bO⟩) = (∃ (s : (lkD SB).St),Eqs (R26 S s.fst) (Eqs (R25 S s.snd.snd.snd) (Eqs (R24 (yz S z k) s.snd.snd.snd) (Eqs (R23 S s.fst) (((lkD SB).I s) ∧ (∀ (y : XM × YM),(y = (s.fst,s.snd.snd.snd)) → ((decide (aS >
 i64.wrap ((↑b.length : Int) + 1)) = true) → (((bS == 0) = true) → ∃ (s : LS),Eqs (A5 y s O zo ko l) ((aO = s.aS) ∧ ((0 : Int) = s.aO) ∧ (bO = s.bS) ∧ (bS = s.bO) ∧ K3 s i a b l)) ∧ (((bS == 0) = false) → ∃ (s : LS),Eqs (A5 y s O zo ko l) ((aO = s.aS) ∧ (aS = s.aO) ∧ (bO = s.bS) ∧ (bS = s.bO) ∧ K3 s i a b l))) ∧ ((decide (aS > i64.wrap ((↑b.length : Int) + 1)) = false) → ∃ (s : LS),Eqs
 (A5 y s O zo ko l) ((aO = s.aS) ∧ (aS = s.aO) ∧ (bO = s.bS) ∧ (bS = s.bO) ∧ K3 s i a b l))) ∧ True))))) := by kernel_rfl
set_option maxHeartbeats 4000000 in
theorem tw_2t_ok (l : List Bool) (a b : List Op) (i : Nat) (S : XM) (z : Int) (k : Nat) (O : XM) (zo : Int) (ko : Nat) (aS bS aO bO : Int) (hI : (k2 l [a,b] true).I ⟨i,S,z,k,O,zo,ko,aS,bS,aO,bO⟩) : Paid (cT l
 [a,b] 41 (k2 l [a,b] true) ⟨i,S,z,k,O,zo,ko,aS,bS,aO,bO⟩) := by
  refine ⟨?_⟩
  rw [tw_2t l a b i S z k O zo ko aS bS aO bO]
  exact ⟨(S,z,k,yz S z k),qq (qq (qq (qq (⟨⟨hI.1.S.sb,rfl⟩,fun y hy => by
   obtain rfl := hy
   exact ⟨fun h2 => ⟨fun h3 => ⟨⟨i + 1,memX O S,zo,ko,S,z,k,aO,bO,(0 : Int),bS⟩,qq (⟨rfl,rfl,rfl,rfl,rfl,rfl,(wN (lt_big hI.2.1 hI.2.2.1)),⟨(li_swap (li_end1 hI.1 hI.2.2.2.2 h2 h3)),hI.2.1,hI.2.2⟩,(msr2 hI.2.1 hI.2.2.1),trivial⟩)⟩,fun h4 => ⟨⟨i + 1,memX O S,zo,ko,S,z,k,aO,bO,aS,bS⟩,qq (⟨rfl,rfl,rfl,rfl,rfl,rfl,(wN (lt_big hI.2.1 hI.2.2.1)),⟨(li_swap (li_end2 hI.1 hI.2.2.2.2 h2 h4)),hI.2.1,hI.2.2⟩,(msr2 hI.2.1 hI.2.2.1),trivial⟩)⟩⟩,fun h5 => ⟨⟨i + 1,memX O S,zo,ko,S,z,k,aO,bO,aS,bS⟩,qq (⟨rfl,rfl,rfl,rfl,rfl,rfl,(wN (lt_big hI.2.1 hI.2.2.1)),⟨(li_swap (li_end0 hI.1 hI.2.2.2.2 h5)),hI.2.1,hI.2.2⟩,(msr2 hI.2.1 hI.2.2.1),trivial⟩)⟩⟩,trivial⟩))))⟩
end Go.Proofs.YtmjjljngaefpaaaGreat

/- Tl2Two: the law's entry, its loop's head. Printed by a program (gen_tw.py). -/
import Derived.Test.YtmjjljngaefpaaaGreatTr
namespace Go.Proofs.YtmjjljngaefpaaaGreat
open Go.RowKit Go.Am Go.Sy
open Go.IntKind (i64 u64)
set_option linter.unusedVariables false
theorem tw_e (cl : Int) (l : List Bool) (a b : List Op) : Go.Sy.Tree.holds (entryS F (lookC lT) 3000 Tryz.f3 b3 (fT l [a,b]) selT [.i .i64 cl,.tl (T := T) 2 a,.tl (T := T) 2 b,.tl (T := T) 1 l]) = (((decide
 ((↑a.length : Int) > (8 : Int)) = true) → (true = true) ∧ True) ∧ ((decide ((↑a.length : Int) > (8 : Int)) = false) → ((decide ((↑b.length : Int) > (8 : Int)) = true) → (true = true) ∧ True) ∧ ((decide ((↑b.length : Int)
 > (8 : Int)) = false) → ((decide ((↑l.length : Int) > (150 : Int)) = true) → (true = true) ∧ True) ∧ ((decide ((↑l.length : Int) > (150 : Int)) = false) → (sizeD.pre (Mp.mk (3 : Int) (1 : Int) (3 : Int) (0 : Int) (4 :
 Int),())) ∧ ∃ (s : Int),(a = [a,b].getD (0 : Nat) []) ∧ (b = [a,b].getD (1 : Nat) []) ∧ (l = l) ∧ Eqs (R8) ((AVal.int i64 (i64.wrap ((1 : Int) + i64.wrap ((u64.wrap cl).tmod (2 :
 Int)))) = AVal.int i64 s) ∧ ((s = (1 : Int) ∨ s = (2 : Int)) ∧ lenOk l [a,b]) ∧ True))))) := by kernel_rfl
set_option maxHeartbeats 4000000 in
theorem tw_e_ok (cl : Int) (l : List Bool) (a b : List Op) : Paid (entryS F (lookC lT) 3000 Tryz.f3 b3 (fT l [a,b]) selT [.i .i64 cl,.tl (T := T) 2 a,.tl (T := T) 2 b,.tl (T := T) 1 l]) := by
 refine ⟨?_⟩
 rw [tw_e cl l a b]
 exact ⟨fun h1 => ⟨rfl,trivial⟩,fun h2 => ⟨fun h3 => ⟨rfl,trivial⟩,fun h4 => ⟨fun h5 => ⟨rfl,trivial⟩,fun h6 => ⟨rfl,⟨i64.wrap ((1 : Int) + i64.wrap ((u64.wrap cl).tmod (2 : Int))),⟨rfl,rfl,rfl,qq (⟨rfl,⟨(clk12 cl),⟨Int.ofNat_le.1 (Int.not_lt.1 (qc h6)),Int.ofNat_le.1 (Int.not_lt.1 (qc h2)),Int.ofNat_le.1 (Int.not_lt.1 (qc h4))⟩⟩,trivial⟩)⟩⟩⟩⟩⟩⟩
theorem tw_61 (l : List Bool) (a b : List Op) : Go.Sy.Tree.holds (cT l [a,b] 6 (k6 l [a,b]) (1 : Int)) = ((threadD.pre (Mp.mk (3 : Int) (1 : Int) (3 : Int) (0 : Int) (4 : Int),(0 : Int),(0 : Int),())) ∧ ((false =
 true) → (threadD.pre (Mp.mk (3 : Int) (1 : Int) (3 : Int) (0 : Int) (4 : Int),(2 : Int),(0 : Int),())) ∧ ((false = true) → (mayD.pre (Mp.mk (3 : Int) (1 : Int) (3 : Int) (0 : Int) (4 : Int),())) ∧ (mayD.pre (Mp.mk (3
 : Int) (1 : Int) (3 : Int) (0 : Int) (4 : Int),())) ∧ (false = true) ∧ True) ∧ ((false = false) → (mayD.pre (Mp.mk (3 : Int) (1 : Int) (3 : Int) (0 : Int) (4 : Int),())) ∧ (mayD.pre (Mp.mk (3 : Int) (1 : Int) (3 : Int)
 (0 : Int) (4 : Int),())) ∧ (false = true) ∧ True)) ∧ ((false = false) → (threadD.pre (Mp.mk (3 : Int) (1 : Int) (3 : Int) (0 : Int) (4 : Int),(2 : Int),(0 : Int),())) ∧ ((false = true) → (mayD.pre (Mp.mk (3 : Int) (1
 : Int) (3 : Int) (0 : Int) (4 : Int),())) ∧ (mayD.pre (Mp.mk (3 : Int) (1 : Int) (3 : Int) (0 : Int) (4 : Int),())) ∧ (false = true) ∧ True) ∧ ((false = false) → (mayD.pre (Mp.mk (3 : Int) (1 : Int) (3 : Int) (0 : Int)
 (4 : Int),())) ∧ (mayD.pre (Mp.mk (3 : Int) (1 : Int) (3 : Int) (0 : Int) (4 : Int),())) ∧ ∃ (s : LS),Eqs (A2 s l) (((0 : Int) = s.aS) ∧ ((0 : Int) = s.aO) ∧ ((0 : Int) = s.bS) ∧ ((0 : Int) = s.bO) ∧ K2 s a b l)))) :=
 by kernel_rfl
set_option maxHeartbeats 4000000 in
theorem tw_61_ok (l : List Bool) (a b : List Op) (hL : lenOk l [a,b]) : Paid (cT l [a,b] 6 (k6 l [a,b]) (1 : Int)) := by
 refine ⟨?_⟩
 rw [tw_61 l a b]
 exact ⟨⟨rfl,(by decide),(by decide),rfl⟩,fun h => absurd h (by decide),fun _ => ⟨⟨rfl,(by decide),(by decide),rfl⟩,fun h => absurd h (by decide),fun _ => ⟨rfl,rfl,⟨⟨0,newX 0 1,0,0,newX 2 1,0,0,(0 : Int),(0 : Int),(0 : Int),(0 : Int)⟩,qq (⟨rfl,rfl,rfl,rfl,rfl,rfl,rfl,⟨(li_new (by decide)),(Nat.zero_le _),hL⟩,(by decide),trivial⟩)⟩⟩⟩⟩
theorem tw_62 (l : List Bool) (a b : List Op) : Go.Sy.Tree.holds (cT l [a,b] 6 (k6 l [a,b]) (2 : Int)) = ((threadD.pre (Mp.mk (3 : Int) (1 : Int) (3 : Int) (0 : Int) (4 : Int),(0 : Int),(0 : Int),())) ∧ ((false =
 true) → (threadD.pre (Mp.mk (3 : Int) (1 : Int) (3 : Int) (0 : Int) (4 : Int),(2 : Int),(0 : Int),())) ∧ ((false = true) → (mayD.pre (Mp.mk (3 : Int) (1 : Int) (3 : Int) (0 : Int) (4 : Int),())) ∧ (mayD.pre (Mp.mk (3
 : Int) (1 : Int) (3 : Int) (0 : Int) (4 : Int),())) ∧ (false = true) ∧ True) ∧ ((false = false) → (mayD.pre (Mp.mk (3 : Int) (1 : Int) (3 : Int) (0 : Int) (4 : Int),())) ∧ (mayD.pre (Mp.mk (3 : Int) (1 : Int) (3 : Int)
 (0 : Int) (4 : Int),())) ∧ (false = true) ∧ True)) ∧ ((false = false) → (threadD.pre (Mp.mk (3 : Int) (1 : Int) (3 : Int) (0 : Int) (4 : Int),(2 : Int),(0 : Int),())) ∧ ((false = true) → (mayD.pre (Mp.mk (3 : Int) (1
 : Int) (3 : Int) (0 : Int) (4 : Int),())) ∧ (mayD.pre (Mp.mk (3 : Int) (1 : Int) (3 : Int) (0 : Int) (4 : Int),())) ∧ (false = true) ∧ True) ∧ ((false = false) → (mayD.pre (Mp.mk (3 : Int) (1 : Int) (3 : Int) (0 : Int)
 (4 : Int),())) ∧ (mayD.pre (Mp.mk (3 : Int) (1 : Int) (3 : Int) (0 : Int) (4 : Int),())) ∧ ∃ (s : LS),Eqs (A3 s l) (((0 : Int) = s.aS) ∧ ((0 : Int) = s.aO) ∧ ((0 : Int) = s.bS) ∧ ((0 : Int) = s.bO) ∧ K2 s a b l)))) :=
 by kernel_rfl
set_option maxHeartbeats 4000000 in
theorem tw_62_ok (l : List Bool) (a b : List Op) (hL : lenOk l [a,b]) : Paid (cT l [a,b] 6 (k6 l [a,b]) (2 : Int)) := by
 refine ⟨?_⟩
 rw [tw_62 l a b]
 exact ⟨⟨rfl,(by decide),(by decide),rfl⟩,fun h => absurd h (by decide),fun _ => ⟨⟨rfl,(by decide),(by decide),rfl⟩,fun h => absurd h (by decide),fun _ => ⟨rfl,rfl,⟨⟨0,newX 0 2,0,0,newX 2 2,0,0,(0 : Int),(0 : Int),(0 : Int),(0 : Int)⟩,qq (⟨rfl,rfl,rfl,rfl,rfl,rfl,rfl,⟨(li_new (by decide)),(Nat.zero_le _),hL⟩,(by decide),trivial⟩)⟩⟩⟩⟩
theorem tw_0 (l : List Bool) (a b : List Op) (i : Nat) (S : XM) (z : Int) (k : Nat) (O : XM) (zo : Int) (ko : Nat) (aS bS aO bO : Int) : Go.Sy.Tree.holds (cT l [a,b] 12 (k0 l [a,b]) ⟨i,S,z,k,O,zo,ko,aS,bS,aO,
 bO⟩) = (((decide ((↑i : Int) < (↑l.length : Int)) = true) → (((0 : Int) ≤ (↑i : Int)) ∧ (↑i : Int) < (↑l.length : Int)) ∧ ((at1 l (↑i : Int) = true) → ∃ (s : LS),Eqs (A0 s S O z k zo ko l) ((aS = s.aO) ∧ (aO = s.aS) ∧
 (bS = s.bO) ∧ (bO = s.bS) ∧ K0 s i a b l)) ∧ ((at1 l (↑i : Int) = false) → ∃ (s : LS),Eqs (A1 s S O z k zo ko l) ((aS = s.aS) ∧ (aO = s.aO) ∧ (bS = s.bS) ∧ (bO = s.bO) ∧ K1 s i a b l))) ∧ ((decide ((↑i : Int) <
 (↑l.length : Int)) = false) → (sameD.pre (Mw.mk S.W,Mw.mk S.W,())) ∧ (true = true) ∧ True)) := by kernel_rfl
set_option maxHeartbeats 4000000 in
theorem tw_0_ok (l : List Bool) (a b : List Op) (i : Nat) (S : XM) (z : Int) (k : Nat) (O : XM) (zo : Int) (ko : Nat) (aS bS aO bO : Int) (hI : (k0 l [a,b]).I ⟨i,S,z,k,O,zo,ko,aS,bS,aO,bO⟩) : Paid (cT l [a,b]
 12 (k0 l [a,b]) ⟨i,S,z,k,O,zo,ko,aS,bS,aO,bO⟩) := by
  refine ⟨?_⟩
  rw [tw_0 l a b i S z k O zo ko aS bS aO bO]
  exact ⟨fun h1 => ⟨⟨(Int.natCast_nonneg _),(qb h1)⟩,fun h2 => ⟨⟨i,memX O S,zo,ko,S,z,k,aO,bO,aS,bS⟩,qq (⟨rfl,rfl,rfl,rfl,rfl,rfl,rfl,rfl,⟨(li_swap hI.1),(Int.ofNat_lt.1 (qb h1)),hI.2.2⟩,(msr0 (Int.ofNat_lt.1 (qb h1)) hI.2.2.1),trivial⟩)⟩,fun h3 => ⟨⟨i,S,z,k,O,zo,ko,aS,bS,aO,bO⟩,qq (⟨rfl,rfl,rfl,rfl,rfl,rfl,rfl,rfl,⟨hI.1,(Int.ofNat_lt.1 (qb h1)),hI.2.2⟩,(msr0 (Int.ofNat_lt.1 (qb h1)) hI.2.2.1),trivial⟩)⟩⟩,fun h4 => ⟨⟨rfl,hI.1.W.len⟩,rfl,trivial⟩⟩
end Go.Proofs.YtmjjljngaefpaaaGreat

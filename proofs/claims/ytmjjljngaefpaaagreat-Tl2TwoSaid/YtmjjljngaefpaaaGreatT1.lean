/- Tl2Two: a turn of the law: what is asked of both, a step of both. Printed by a program (gen_tw.py). -/
import Derived.Test.YtmjjljngaefpaaaGreatTr
namespace Go.Proofs.YtmjjljngaefpaaaGreat
open Go.RowKit Go.Am Go.Sy
open Go.IntKind (i64 u64)
set_option linter.unusedVariables false
theorem tw_1f (l : List Bool) (a b : List Op) (i : Nat) (S : XM) (z : Int) (k : Nat) (O : XM) (zo : Int) (ko : Nat) (aS bS aO bO : Int) : Go.Sy.Tree.holds (cT l [a,b] 17 (k1 l [a,b] false) ⟨i,S,z,k,O,zo,ko,aS,
 bS,aO,bO⟩) = ((((bS == 0) = true) → (((aS == 0) = true) → ∃ (s : (xBegD noX).St),Eqs (R28 S s) (((xBegD noX).I s) ∧ (∀ (y : XM),(y = beginX s) → ∃ (s : (yBegD noX).St),Eqs (R25 S s.snd.snd.snd) (Eqs
 (R24 (yz S z k) s.snd.snd.snd) (((yBegD noX).I s) ∧ (∀ (y_1 : YM),(y_1 = yv (beginX s.fst)) → (((y.code != y_1.code) = true) → (false = true) ∧ True) ∧ (((y.code != y_1.code) = false) → (((y.code != 0) = true) →
 ∃ (s : LS),Eqs (A6 y y_1 s O zo ko l) ((i64.wrap (aS + 1) = s.aS) ∧ (aO = s.aO) ∧ ((0 : Int) = s.bS) ∧ (bO = s.bO) ∧ K4 s i a b l)) ∧ (((y.code != 0) = false) → ∃ (s : LS),Eqs (A6 y y_1 s O zo
 ko l) ((i64.wrap (aS + 1) = s.aS) ∧ (aO = s.aO) ∧ ((1 : Int) = s.bS) ∧ (bO = s.bO) ∧ K4 s i a b l)))) ∧ True))) ∧ True)) ∧ (((aS == 0) = false) → ((decide (aS > (↑a.length : Int)) = true) → ∃ (s :
 (xComD opX).St),Eqs (R28 S s) (((xComD opX).I s) ∧ (∀ (y : XM),(y = commitX s) → ∃ (s : (yComD opX).St),Eqs (R25 S s.snd.snd.snd) (Eqs (R24 (yz S z k) s.snd.snd.snd) (((yComD opX).I s) ∧ (∀ (y_1 : YM),(y_1 = yv
 (commitX s.fst)) → (((y.code != y_1.code) = true) → (false = true) ∧ True) ∧ (((y.code != y_1.code) = false) → (((y.code != 0) = true) → ∃ (s : LS),Eqs (A7 y y_1 s O zo ko l) ((i64.wrap (aS + 1)
 = s.aS) ∧ (aO = s.aO) ∧ ((0 : Int) = s.bS) ∧ (bO = s.bO) ∧ K4 s i a b l)) ∧ (((y.code != 0) = false) → ∃ (s : LS),Eqs (A7 y y_1 s O zo ko l) ((i64.wrap (aS + 1) = s.aS) ∧ (aO = s.aO) ∧ ((1 : Int)
 = s.bS) ∧ (bO = s.bO) ∧ K4 s i a b l)))) ∧ True))) ∧ True)) ∧ ((decide (aS > (↑a.length : Int)) = false) → (((0 : Int) ≤ i64.wrap (aS - 1)) ∧ i64.wrap (aS - 1) < (↑a.length : Int)) ∧
 (dataD.pre (Mp.mk (3 : Int) 1 3 0 (4 : Int),i64.wrap ((u64.wrap (at2 a (i64.wrap (aS - 1))).pl).tmod (4 : Int)),())) ∧ ((((u64.wrap (at2 a
 (i64.wrap (aS - 1))).kd).tmod (2 : Int) == 0) = true) → ∃ (s : (xReadD fun (q : XM × Int) => opX q.fst ∧ isData q.snd).St),Eqs (R26 S s.fst) (((26 : Int) + 2 * i64.wrap
 ((u64.wrap (at2 a (i64.wrap (aS - 1))).pl).tmod (4 : Int)) = s.snd) ∧ Eqs (R23 S s.fst) (((xReadD fun (q : XM × Int) => opX q.fst ∧ isData q.snd).I s) ∧ (∀ (y : XM),(y = readX s.snd s.fst) → ∃ (s
 : (yReadD fun (q : XM × Int) => opX q.fst ∧ isData q.snd).St),Eqs (R25 S s.snd.snd.snd.snd) (((26 : Int) + 2 * i64.wrap ((u64.wrap (at2 a (i64.wrap (aS - 1))).pl).tmod (4 : Int))
 = s.snd.fst) ∧ Eqs (R24 (yz S z k) s.snd.snd.snd.snd) (((yReadD fun (q : XM × Int) => opX q.fst ∧ isData q.snd).I s) ∧ (∀ (y_1 : YM),(y_1 = yz (readX s.snd.fst s.fst) 0 0) → (((y.code != y_1.code) =
 true) → (false = true) ∧ True) ∧ (((y.code != y_1.code) = false) → (((y.code != 0) = true) → ∃ (s : LS),Eqs (A7 y y_1 s O zo ko l) ((i64.wrap (aS + 1) = s.aS) ∧ (aO = s.aO) ∧ ((0 : Int) = s.bS) ∧
 (bO = s.bO) ∧ K4 s i a b l)) ∧ (((y.code != 0) = false) → ∃ (s : LS),Eqs (A7 y y_1 s O zo ko l) ((i64.wrap (aS + 1) = s.aS) ∧ (aO = s.aO) ∧ ((1 : Int) = s.bS) ∧ (bO = s.bO) ∧ K4 s i a b l)))) ∧
 True))) ∧ True))) ∧ ((((u64.wrap (at2 a (i64.wrap (aS - 1))).kd).tmod (2 : Int) == 0) = false) → ∃ (s : (xWrtD fun (q : XM × Int × Int) => opX q.fst ∧ isData q.snd.fst).St),Eqs (R26 S
 s.fst) (((26 : Int) + 2 * i64.wrap ((u64.wrap (at2 a (i64.wrap (aS - 1))).pl).tmod (4 : Int)) = s.snd.fst) ∧ ((at2 a (i64.wrap (aS - 1))).vl = s.snd.snd) ∧ Eqs (R23
 S s.fst) (((xWrtD fun (q : XM × Int × Int) => opX q.fst ∧ isData q.snd.fst).I s) ∧ (∀ (y : XM),(y = writeX s.snd.fst s.snd.snd s.fst) → ∃ (s : (yWrtD fun (q : XM × Int × Int) => opX q.fst ∧ isData q.snd.fst).St),Eqs
 (R25 S s.snd.snd.snd.snd.snd) (((26 : Int) + 2 * i64.wrap ((u64.wrap (at2 a (i64.wrap (aS - 1))).pl).tmod (4 : Int)) = s.snd.fst) ∧ ((at2 a (i64.wrap (aS - 1))).vl
 = s.snd.snd.fst) ∧ Eqs (R24 (yz S z k) s.snd.snd.snd.snd.snd) (((yWrtD fun (q : XM × Int × Int) => opX q.fst ∧ isData q.snd.fst).I s) ∧ (∀ (y_1 : YM),(y_1 = yz (writeX s.snd.fst s.snd.snd.fst s.fst) s.snd.snd.snd.fst
 s.snd.snd.snd.snd.fst) → (((at2 a (i64.wrap (aS - 1))).kd = (at2 a (i64.wrap (aS - 1))).kd) ∧ ((at2 a (i64.wrap (aS - 1))).pl = (at2 a (i64.wrap (aS - 1))).pl) ∧ ((at2 a (i64.wrap (aS - 1))).vl = (at2 a (i64.wrap (aS - 1))).vl) ∧ True) ∧ (((y.code != y_1.code) = true) → (false = true) ∧ True) ∧ (((y.code != y_1.code) = false) →
 (((y.code != 0) = true) → ∃ (s : LS),Eqs (A7 y y_1 s O zo ko l) ((i64.wrap (aS + 1) = s.aS) ∧ (aO = s.aO) ∧ ((0 : Int) = s.bS) ∧ (bO = s.bO) ∧ K4 s i a b l)) ∧ (((y.code != 0) = false) →
 ∃ (s : LS),Eqs (A7 y y_1 s O zo ko l) ((i64.wrap (aS + 1) = s.aS) ∧ (aO = s.aO) ∧ ((1 : Int) = s.bS) ∧ (bO = s.bO) ∧ K4 s i a b l)))) ∧ True))) ∧ True)))))) ∧ (((bS == 0) = false) → ∃ (s :
 (xStepD stepX atX (36 : Nat)).St),Eqs (R28 S s) (((xStepD stepX atX (36 : Nat)).I s) ∧ (∀ (y : XM),((y = stepX s) ∧ ¬fresh0 s) → ∃ (s : (yStepD stepX atX (39 : Nat)).St),Eqs (R25 S s.snd) (Eqs (R24 (yz S z k) s.snd)
 (((yStepD stepX atX (39 : Nat)).I s) ∧ (∀ (y_1 : YM),((y_1 = yv (stepX s.fst)) ∧ ¬fresh0 s.fst) → B0 y y_1 O zo ko i a b l aS bS aO bO) ∧ (∀ (y_1 : YM),((y_1 = yv (stepX s.fst)) ∧ fresh0 s.fst) → B0 y y_1 O zo ko i a b
 l aS bS aO bO) ∧ True))) ∧ (∀ (y : XM),((y = stepX s) ∧ fresh0 s) → ∃ (s : (yStepD stepX atX (39 : Nat)).St),Eqs (R25 S s.snd) (Eqs (R24 (yz S z k) s.snd) (((yStepD stepX atX (39 : Nat)).I s) ∧ (∀ (y_1 : YM),((y_1 =
 yv (stepX s.fst)) ∧ ¬fresh0 s.fst) → B0 y y_1 O zo ko i a b l aS bS aO bO) ∧ (∀ (y_1 : YM),((y_1 = yv (stepX s.fst)) ∧ fresh0 s.fst) → B0 y y_1 O zo ko i a b l aS bS aO bO) ∧ True))) ∧ True))) := by kernel_rfl
set_option maxHeartbeats 4000000 in
theorem tw_1f_ok (l : List Bool) (a b : List Op) (i : Nat) (S : XM) (z : Int) (k : Nat) (O : XM) (zo : Int) (ko : Nat) (aS bS aO bO : Int) (hI : (k1 l [a,b] false).I ⟨i,S,z,k,O,zo,ko,aS,bS,aO,bO⟩) : Paid (cT l
 [a,b] 17 (k1 l [a,b] false) ⟨i,S,z,k,O,zo,ko,aS,bS,aO,bO⟩) := by
  refine ⟨?_⟩
  rw [tw_1f l a b i S z k O zo ko aS bS aO bO]
  exact ⟨fun h1 => ⟨fun h2 => ⟨S,qq (⟨(pl_beg hI.1.pS h1 h2),fun y hy => by
   obtain rfl := hy
   exact ⟨(S,z,k,yz S z k),qq (qq (⟨⟨(pl_beg hI.1.pS h1 h2),rfl⟩,fun y hy => by
    obtain rfl := hy
    exact ⟨fun h => bne_absurd h,fun h5 => ⟨fun h => bne_absurd h,fun h7 => ⟨⟨i,beginX S,stY (beginX S).part,(beginX S).i,O,zo,ko,i64.wrap (aS + 1),(1 : Int),aO,bO⟩,qq (⟨rfl,rfl,rfl,rfl,rfl,rfl,rfl,rfl,⟨(li_beg hI.1 h1 h2),hI.2.1,hI.2.2⟩,(msr1 hI.2.1 hI.2.2.1),trivial⟩)⟩⟩⟩,trivial⟩))⟩,trivial⟩)⟩,fun h8 => ⟨fun h9 => ⟨S,qq (⟨(li_op hI.1 h1 h8),fun y hy => by
     obtain rfl := hy
     exact ⟨(S,z,k,yz S z k),qq (qq (⟨⟨(li_op hI.1 h1 h8),rfl⟩,fun y hy => by
      obtain rfl := hy
      exact ⟨fun h => bne_absurd h,fun h12 => ⟨fun h => bne_absurd h,fun h14 => ⟨⟨i,commitX S,stY (commitX S).part,(commitX S).i,O,zo,ko,i64.wrap (aS + 1),(1 : Int),aO,bO⟩,qq (⟨rfl,rfl,rfl,rfl,rfl,rfl,rfl,rfl,⟨(li_com hI.1 h1 h8 h9 hI.2.2.2.1),hI.2.1,hI.2.2⟩,(msr1 hI.2.1 hI.2.2.1),trivial⟩)⟩⟩⟩,trivial⟩))⟩,trivial⟩)⟩,fun h15 => ⟨⟨(li_ix hI.1 h1 h8 h15 hI.2.2.2.1).1,(li_ix hI.1 h1 h8 h15 hI.2.2.2.1).2⟩,⟨rfl,tmod4 rfl⟩,fun h16 => ⟨(S,26 + 2 * i64.wrap ((u64.wrap (at2 a (i64.wrap (aS - 1))).pl).tmod (4 : Int))),qq (⟨rfl,qq (⟨⟨li_op hI.1 h1 h8,data_is (tmod4 rfl)⟩,fun y hy => by
       obtain rfl := hy
       exact ⟨(S,26 + 2 * i64.wrap ((u64.wrap (at2 a (i64.wrap (aS - 1))).pl).tmod (4 : Int)),z,k,yz S z k),qq (⟨rfl,qq (⟨⟨⟨li_op hI.1 h1 h8,data_is (tmod4 rfl)⟩,rfl⟩,fun y hy => by
        obtain rfl := hy
        exact ⟨fun h => bne_absurd h,fun h19 => ⟨fun h20 => ⟨⟨i,readX ((26 : Int) + 2 * i64.wrap ((u64.wrap (at2 a (i64.wrap (aS - 1))).pl).tmod (4 : Int))) S,0,0,O,zo,ko,i64.wrap (aS + 1),(0 : Int),aO,bO⟩,qq (⟨rfl,rfl,rfl,rfl,rfl,rfl,rfl,rfl,⟨(li_read (data_is (tmod4 rfl)) hI.1 h1 h8 h15 hI.2.2.2.1 h20),hI.2.1,hI.2.2⟩,(msr1 hI.2.1 hI.2.2.1),trivial⟩)⟩,fun h21 => ⟨⟨i,readX ((26 : Int) + 2 * i64.wrap ((u64.wrap (at2 a (i64.wrap (aS - 1))).pl).tmod (4 : Int))) S,0,0,O,zo,ko,i64.wrap (aS + 1),(1 : Int),aO,bO⟩,qq (⟨rfl,rfl,rfl,rfl,rfl,rfl,rfl,rfl,⟨(li_read (data_is (tmod4 rfl)) hI.1 h1 h8 h15 hI.2.2.2.1 h21),hI.2.1,hI.2.2⟩,(msr1 hI.2.1 hI.2.2.1),trivial⟩)⟩⟩⟩,trivial⟩)⟩)⟩,trivial⟩)⟩)⟩,fun h22 => ⟨(S,26 + 2 * i64.wrap ((u64.wrap (at2 a (i64.wrap (aS - 1))).pl).tmod (4 : Int)),(at2 a (i64.wrap (aS - 1))).vl),qq (⟨rfl,rfl,qq (⟨⟨li_op hI.1 h1 h8,data_is (tmod4 rfl)⟩,fun y hy => by
         obtain rfl := hy
         exact ⟨(S,26 + 2 * i64.wrap ((u64.wrap (at2 a (i64.wrap (aS - 1))).pl).tmod (4 : Int)),(at2 a (i64.wrap (aS - 1))).vl,z,k,yz S z k),qq (⟨rfl,rfl,qq (⟨⟨⟨li_op hI.1 h1 h8,data_is (tmod4 rfl)⟩,rfl⟩,fun y hy => by
          obtain rfl := hy
          exact ⟨⟨rfl,rfl,rfl,trivial⟩,fun h => bne_absurd h,fun h25 => ⟨fun h26 => ⟨⟨i,writeX ((26 : Int) + 2 * i64.wrap ((u64.wrap (at2 a (i64.wrap (aS - 1))).pl).tmod (4 : Int))) ((at2 a (i64.wrap (aS - 1))).vl) S,z,k,O,zo,ko,i64.wrap (aS + 1),(0 : Int),aO,bO⟩,qq (⟨rfl,rfl,rfl,rfl,rfl,rfl,rfl,rfl,⟨(li_write (data_is (tmod4 rfl)) hI.1 h1 h8 h15 hI.2.2.2.1),hI.2.1,hI.2.2⟩,(msr1 hI.2.1 hI.2.2.1),trivial⟩)⟩,fun h => one_absurd h⟩⟩,trivial⟩)⟩)⟩,trivial⟩)⟩)⟩⟩⟩⟩,fun h28 => ⟨S,qq (⟨(li_at hI.1 h28),fun y hy => by
           obtain ⟨rfl,h30⟩ := hy
           exact ⟨(S,yz S z k),qq (qq (⟨⟨li_at hI.1 h28,li_yv hI.1 h28⟩,fun y hy => by
            obtain ⟨rfl,h32⟩ := hy
            exact ⟨fun h => bne_absurd h,fun h33 => ⟨fun h34 => ⟨fun h => like_absurd h,fun h35 => ⟨fun h36 => ⟨fun h37 => ⟨⟨i,stepX S,stY (stepX S).part,(stepX S).i,O,zo,ko,(0 : Int),(0 : Int),aO,bO⟩,qq (⟨rfl,rfl,rfl,rfl,rfl,rfl,rfl,rfl,⟨(li_step hI.1 h28 (le_th hI.2.1 hI.2.2.1) h36 h37),hI.2.1,hI.2.2⟩,(msr1 hI.2.1 hI.2.2.1),trivial⟩)⟩,fun h38 => ⟨⟨i,stepX S,stY (stepX S).part,(stepX S).i,O,zo,ko,aS,(0 : Int),aO,bO⟩,qq (⟨rfl,rfl,rfl,rfl,rfl,rfl,rfl,rfl,⟨(li_step hI.1 h28 (le_th hI.2.1 hI.2.2.1) h36 h38),hI.2.1,hI.2.2⟩,(msr1 hI.2.1 hI.2.2.1),trivial⟩)⟩⟩,fun h39 => ⟨fun h40 => ⟨⟨i,stepX S,stY (stepX S).part,(stepX S).i,O,zo,ko,(0 : Int),bS,aO,bO⟩,qq (⟨rfl,rfl,rfl,rfl,rfl,rfl,rfl,rfl,⟨(li_step hI.1 h28 (le_th hI.2.1 hI.2.2.1) h39 h40),hI.2.1,hI.2.2⟩,(msr1 hI.2.1 hI.2.2.1),trivial⟩)⟩,fun h41 => ⟨⟨i,stepX S,stY (stepX S).part,(stepX S).i,O,zo,ko,aS,bS,aO,bO⟩,qq (⟨rfl,rfl,rfl,rfl,rfl,rfl,rfl,rfl,⟨(li_step hI.1 h28 (le_th hI.2.1 hI.2.2.1) h39 h41),hI.2.1,hI.2.2⟩,(msr1 hI.2.1 hI.2.2.1),trivial⟩)⟩⟩⟩⟩,fun h => beq_absurd h⟩⟩,fun y hy => absurd hy.2 h30,trivial⟩))⟩,fun y hy => by
             obtain ⟨rfl,h45⟩ := hy
             exact ⟨(S,yz S z k),qq (qq (⟨⟨li_at hI.1 h28,li_yv hI.1 h28⟩,fun y hy => absurd h45 hy.2,fun y hy => by
              obtain ⟨rfl,h49⟩ := hy
              exact ⟨fun h => bne_absurd h,fun h50 => ⟨fun h51 => ⟨fun h => like_absurd h,fun h52 => ⟨fun h53 => ⟨fun h54 => ⟨⟨i,stepX S,stY (stepX S).part,(stepX S).i,O,zo,ko,(0 : Int),(0 : Int),aO,bO⟩,qq (⟨rfl,rfl,rfl,rfl,rfl,rfl,rfl,rfl,⟨(li_step hI.1 h28 (le_th hI.2.1 hI.2.2.1) h53 h54),hI.2.1,hI.2.2⟩,(msr1 hI.2.1 hI.2.2.1),trivial⟩)⟩,fun h55 => ⟨⟨i,stepX S,stY (stepX S).part,(stepX S).i,O,zo,ko,aS,(0 : Int),aO,bO⟩,qq (⟨rfl,rfl,rfl,rfl,rfl,rfl,rfl,rfl,⟨(li_step hI.1 h28 (le_th hI.2.1 hI.2.2.1) h53 h55),hI.2.1,hI.2.2⟩,(msr1 hI.2.1 hI.2.2.1),trivial⟩)⟩⟩,fun h56 => ⟨fun h57 => ⟨⟨i,stepX S,stY (stepX S).part,(stepX S).i,O,zo,ko,(0 : Int),bS,aO,bO⟩,qq (⟨rfl,rfl,rfl,rfl,rfl,rfl,rfl,rfl,⟨(li_step hI.1 h28 (le_th hI.2.1 hI.2.2.1) h56 h57),hI.2.1,hI.2.2⟩,(msr1 hI.2.1 hI.2.2.1),trivial⟩)⟩,fun h58 => ⟨⟨i,stepX S,stY (stepX S).part,(stepX S).i,O,zo,ko,aS,bS,aO,bO⟩,qq (⟨rfl,rfl,rfl,rfl,rfl,rfl,rfl,rfl,⟨(li_step hI.1 h28 (le_th hI.2.1 hI.2.2.1) h56 h58),hI.2.1,hI.2.2⟩,(msr1 hI.2.1 hI.2.2.1),trivial⟩)⟩⟩⟩⟩,fun h => beq_absurd h⟩⟩,trivial⟩))⟩,trivial⟩)⟩⟩
theorem tw_1t (l : List Bool) (a b : List Op) (i : Nat) (S : XM) (z : Int) (k : Nat) (O : XM) (zo : Int) (ko : Nat) (aS bS aO bO : Int) : Go.Sy.Tree.holds (cT l [a,b] 17 (k1 l [a,b] true) ⟨i,S,z,k,O,zo,ko,aS,bS,
 aO,bO⟩) = ((((bS == 0) = true) → (((aS == 0) = true) → ∃ (s : (xBegD noX).St),Eqs (R28 S s) (((xBegD noX).I s) ∧ (∀ (y : XM),(y = beginX s) → ∃ (s : (yBegD noX).St),Eqs (R25 S s.snd.snd.snd) (Eqs (R24
 (yz S z k) s.snd.snd.snd) (((yBegD noX).I s) ∧ (∀ (y_1 : YM),(y_1 = yv (beginX s.fst)) → (((y.code != y_1.code) = true) → (false = true) ∧ True) ∧ (((y.code != y_1.code) = false) → (((y.code != 0) = true) → ∃ (s
 : LS),Eqs (A8 y y_1 s O zo ko l) ((aO = s.aO) ∧ (i64.wrap (aS + 1) = s.aS) ∧ (bO = s.bO) ∧ ((0 : Int) = s.bS) ∧ K5 s i a b l)) ∧ (((y.code != 0) = false) → ∃ (s : LS),Eqs (A8 y y_1 s O zo ko l)
 ((aO = s.aO) ∧ (i64.wrap (aS + 1) = s.aS) ∧ (bO = s.bO) ∧ ((1 : Int) = s.bS) ∧ K5 s i a b l)))) ∧ True))) ∧ True)) ∧ (((aS == 0) = false) → ((decide (aS > (↑b.length : Int)) = true) → ∃ (s :
 (xComD opX).St),Eqs (R28 S s) (((xComD opX).I s) ∧ (∀ (y : XM),(y = commitX s) → ∃ (s : (yComD opX).St),Eqs (R25 S s.snd.snd.snd) (Eqs (R24 (yz S z k) s.snd.snd.snd) (((yComD opX).I s) ∧ (∀ (y_1 : YM),(y_1 = yv
 (commitX s.fst)) → (((y.code != y_1.code) = true) → (false = true) ∧ True) ∧ (((y.code != y_1.code) = false) → (((y.code != 0) = true) → ∃ (s : LS),Eqs (A9 y y_1 s O zo ko l) ((aO = s.aO) ∧ (i64.wrap (aS
 + 1) = s.aS) ∧ (bO = s.bO) ∧ ((0 : Int) = s.bS) ∧ K5 s i a b l)) ∧ (((y.code != 0) = false) → ∃ (s : LS),Eqs (A9 y y_1 s O zo ko l) ((aO = s.aO) ∧ (i64.wrap (aS + 1) = s.aS) ∧ (bO = s.bO)
 ∧ ((1 : Int) = s.bS) ∧ K5 s i a b l)))) ∧ True))) ∧ True)) ∧ ((decide (aS > (↑b.length : Int)) = false) → (((0 : Int) ≤ i64.wrap (aS - 1)) ∧ i64.wrap (aS - 1) < (↑b.length : Int)) ∧
 (dataD.pre (Mp.mk (3 : Int) 1 3 0 (4 : Int),i64.wrap ((u64.wrap (at2 b (i64.wrap (aS - 1))).pl).tmod (4 : Int)),())) ∧ ((((u64.wrap (at2 b
 (i64.wrap (aS - 1))).kd).tmod (2 : Int) == 0) = true) → ∃ (s : (xReadD fun (q : XM × Int) => opX q.fst ∧ isData q.snd).St),Eqs (R26 S s.fst) (((26 : Int) + 2 * i64.wrap
 ((u64.wrap (at2 b (i64.wrap (aS - 1))).pl).tmod (4 : Int)) = s.snd) ∧ Eqs (R23 S s.fst) (((xReadD fun (q : XM × Int) => opX q.fst ∧ isData q.snd).I s) ∧ (∀ (y : XM),(y = readX s.snd s.fst) → ∃ (s
 : (yReadD fun (q : XM × Int) => opX q.fst ∧ isData q.snd).St),Eqs (R25 S s.snd.snd.snd.snd) (((26 : Int) + 2 * i64.wrap ((u64.wrap (at2 b (i64.wrap (aS - 1))).pl).tmod (4 : Int))
 = s.snd.fst) ∧ Eqs (R24 (yz S z k) s.snd.snd.snd.snd) (((yReadD fun (q : XM × Int) => opX q.fst ∧ isData q.snd).I s) ∧ (∀ (y_1 : YM),(y_1 = yz (readX s.snd.fst s.fst) 0 0) → (((y.code != y_1.code) =
 true) → (false = true) ∧ True) ∧ (((y.code != y_1.code) = false) → (((y.code != 0) = true) → ∃ (s : LS),Eqs (A9 y y_1 s O zo ko l) ((aO = s.aO) ∧ (i64.wrap (aS + 1) = s.aS) ∧ (bO = s.bO) ∧ ((0 :
 Int) = s.bS) ∧ K5 s i a b l)) ∧ (((y.code != 0) = false) → ∃ (s : LS),Eqs (A9 y y_1 s O zo ko l) ((aO = s.aO) ∧ (i64.wrap (aS + 1) = s.aS) ∧ (bO = s.bO) ∧ ((1 : Int) = s.bS) ∧ K5 s i a b l)))) ∧
 True))) ∧ True))) ∧ ((((u64.wrap (at2 b (i64.wrap (aS - 1))).kd).tmod (2 : Int) == 0) = false) → ∃ (s : (xWrtD fun (q : XM × Int × Int) => opX q.fst ∧ isData q.snd.fst).St),Eqs (R26 S
 s.fst) (((26 : Int) + 2 * i64.wrap ((u64.wrap (at2 b (i64.wrap (aS - 1))).pl).tmod (4 : Int)) = s.snd.fst) ∧ ((at2 b (i64.wrap (aS - 1))).vl = s.snd.snd) ∧ Eqs (R23
 S s.fst) (((xWrtD fun (q : XM × Int × Int) => opX q.fst ∧ isData q.snd.fst).I s) ∧ (∀ (y : XM),(y = writeX s.snd.fst s.snd.snd s.fst) → ∃ (s : (yWrtD fun (q : XM × Int × Int) => opX q.fst ∧ isData q.snd.fst).St),Eqs
 (R25 S s.snd.snd.snd.snd.snd) (((26 : Int) + 2 * i64.wrap ((u64.wrap (at2 b (i64.wrap (aS - 1))).pl).tmod (4 : Int)) = s.snd.fst) ∧ ((at2 b (i64.wrap (aS - 1))).vl
 = s.snd.snd.fst) ∧ Eqs (R24 (yz S z k) s.snd.snd.snd.snd.snd) (((yWrtD fun (q : XM × Int × Int) => opX q.fst ∧ isData q.snd.fst).I s) ∧ (∀ (y_1 : YM),(y_1 = yz (writeX s.snd.fst s.snd.snd.fst s.fst) s.snd.snd.snd.fst
 s.snd.snd.snd.snd.fst) → (((at2 b (i64.wrap (aS - 1))).kd = (at2 b (i64.wrap (aS - 1))).kd) ∧ ((at2 b (i64.wrap (aS - 1))).pl = (at2 b (i64.wrap (aS - 1))).pl) ∧ ((at2 b (i64.wrap (aS - 1))).vl = (at2 b (i64.wrap (aS - 1))).vl) ∧ True) ∧ (((y.code != y_1.code) = true) → (false = true) ∧ True) ∧ (((y.code != y_1.code) = false) →
 (((y.code != 0) = true) → ∃ (s : LS),Eqs (A9 y y_1 s O zo ko l) ((aO = s.aO) ∧ (i64.wrap (aS + 1) = s.aS) ∧ (bO = s.bO) ∧ ((0 : Int) = s.bS) ∧ K5 s i a b l)) ∧ (((y.code != 0) = false) →
 ∃ (s : LS),Eqs (A9 y y_1 s O zo ko l) ((aO = s.aO) ∧ (i64.wrap (aS + 1) = s.aS) ∧ (bO = s.bO) ∧ ((1 : Int) = s.bS) ∧ K5 s i a b l)))) ∧ True))) ∧ True)))))) ∧ (((bS == 0) = false) → ∃ (s :
 (xStepD stepX atX (36 : Nat)).St),Eqs (R28 S s) (((xStepD stepX atX (36 : Nat)).I s) ∧ (∀ (y : XM),((y = stepX s) ∧ ¬fresh0 s) → ∃ (s : (yStepD stepX atX (39 : Nat)).St),Eqs (R25 S s.snd) (Eqs (R24 (yz S z k) s.snd)
 (((yStepD stepX atX (39 : Nat)).I s) ∧ (∀ (y_1 : YM),((y_1 = yv (stepX s.fst)) ∧ ¬fresh0 s.fst) → B1 y y_1 O zo ko i a b l aS bS aO bO) ∧ (∀ (y_1 : YM),((y_1 = yv (stepX s.fst)) ∧ fresh0 s.fst) → B1 y y_1 O zo ko i a b
 l aS bS aO bO) ∧ True))) ∧ (∀ (y : XM),((y = stepX s) ∧ fresh0 s) → ∃ (s : (yStepD stepX atX (39 : Nat)).St),Eqs (R25 S s.snd) (Eqs (R24 (yz S z k) s.snd) (((yStepD stepX atX (39 : Nat)).I s) ∧ (∀ (y_1 : YM),((y_1 =
 yv (stepX s.fst)) ∧ ¬fresh0 s.fst) → B1 y y_1 O zo ko i a b l aS bS aO bO) ∧ (∀ (y_1 : YM),((y_1 = yv (stepX s.fst)) ∧ fresh0 s.fst) → B1 y y_1 O zo ko i a b l aS bS aO bO) ∧ True))) ∧ True))) := by kernel_rfl
set_option maxHeartbeats 4000000 in
theorem tw_1t_ok (l : List Bool) (a b : List Op) (i : Nat) (S : XM) (z : Int) (k : Nat) (O : XM) (zo : Int) (ko : Nat) (aS bS aO bO : Int) (hI : (k1 l [a,b] true).I ⟨i,S,z,k,O,zo,ko,aS,bS,aO,bO⟩) : Paid (cT l
 [a,b] 17 (k1 l [a,b] true) ⟨i,S,z,k,O,zo,ko,aS,bS,aO,bO⟩) := by
  refine ⟨?_⟩
  rw [tw_1t l a b i S z k O zo ko aS bS aO bO]
  exact ⟨fun h1 => ⟨fun h2 => ⟨S,qq (⟨(pl_beg hI.1.pS h1 h2),fun y hy => by
   obtain rfl := hy
   exact ⟨(S,z,k,yz S z k),qq (qq (⟨⟨(pl_beg hI.1.pS h1 h2),rfl⟩,fun y hy => by
    obtain rfl := hy
    exact ⟨fun h => bne_absurd h,fun h5 => ⟨fun h => bne_absurd h,fun h7 => ⟨⟨i,beginX S,stY (beginX S).part,(beginX S).i,O,zo,ko,i64.wrap (aS + 1),(1 : Int),aO,bO⟩,qq (⟨rfl,rfl,rfl,rfl,rfl,rfl,rfl,rfl,⟨(li_beg hI.1 h1 h2),hI.2.1,hI.2.2⟩,(msr1 hI.2.1 hI.2.2.1),trivial⟩)⟩⟩⟩,trivial⟩))⟩,trivial⟩)⟩,fun h8 => ⟨fun h9 => ⟨S,qq (⟨(li_op hI.1 h1 h8),fun y hy => by
     obtain rfl := hy
     exact ⟨(S,z,k,yz S z k),qq (qq (⟨⟨(li_op hI.1 h1 h8),rfl⟩,fun y hy => by
      obtain rfl := hy
      exact ⟨fun h => bne_absurd h,fun h12 => ⟨fun h => bne_absurd h,fun h14 => ⟨⟨i,commitX S,stY (commitX S).part,(commitX S).i,O,zo,ko,i64.wrap (aS + 1),(1 : Int),aO,bO⟩,qq (⟨rfl,rfl,rfl,rfl,rfl,rfl,rfl,rfl,⟨(li_com hI.1 h1 h8 h9 hI.2.2.2.2),hI.2.1,hI.2.2⟩,(msr1 hI.2.1 hI.2.2.1),trivial⟩)⟩⟩⟩,trivial⟩))⟩,trivial⟩)⟩,fun h15 => ⟨⟨(li_ix hI.1 h1 h8 h15 hI.2.2.2.2).1,(li_ix hI.1 h1 h8 h15 hI.2.2.2.2).2⟩,⟨rfl,tmod4 rfl⟩,fun h16 => ⟨(S,26 + 2 * i64.wrap ((u64.wrap (at2 b (i64.wrap (aS - 1))).pl).tmod (4 : Int))),qq (⟨rfl,qq (⟨⟨li_op hI.1 h1 h8,data_is (tmod4 rfl)⟩,fun y hy => by
       obtain rfl := hy
       exact ⟨(S,26 + 2 * i64.wrap ((u64.wrap (at2 b (i64.wrap (aS - 1))).pl).tmod (4 : Int)),z,k,yz S z k),qq (⟨rfl,qq (⟨⟨⟨li_op hI.1 h1 h8,data_is (tmod4 rfl)⟩,rfl⟩,fun y hy => by
        obtain rfl := hy
        exact ⟨fun h => bne_absurd h,fun h19 => ⟨fun h20 => ⟨⟨i,readX ((26 : Int) + 2 * i64.wrap ((u64.wrap (at2 b (i64.wrap (aS - 1))).pl).tmod (4 : Int))) S,0,0,O,zo,ko,i64.wrap (aS + 1),(0 : Int),aO,bO⟩,qq (⟨rfl,rfl,rfl,rfl,rfl,rfl,rfl,rfl,⟨(li_read (data_is (tmod4 rfl)) hI.1 h1 h8 h15 hI.2.2.2.2 h20),hI.2.1,hI.2.2⟩,(msr1 hI.2.1 hI.2.2.1),trivial⟩)⟩,fun h21 => ⟨⟨i,readX ((26 : Int) + 2 * i64.wrap ((u64.wrap (at2 b (i64.wrap (aS - 1))).pl).tmod (4 : Int))) S,0,0,O,zo,ko,i64.wrap (aS + 1),(1 : Int),aO,bO⟩,qq (⟨rfl,rfl,rfl,rfl,rfl,rfl,rfl,rfl,⟨(li_read (data_is (tmod4 rfl)) hI.1 h1 h8 h15 hI.2.2.2.2 h21),hI.2.1,hI.2.2⟩,(msr1 hI.2.1 hI.2.2.1),trivial⟩)⟩⟩⟩,trivial⟩)⟩)⟩,trivial⟩)⟩)⟩,fun h22 => ⟨(S,26 + 2 * i64.wrap ((u64.wrap (at2 b (i64.wrap (aS - 1))).pl).tmod (4 : Int)),(at2 b (i64.wrap (aS - 1))).vl),qq (⟨rfl,rfl,qq (⟨⟨li_op hI.1 h1 h8,data_is (tmod4 rfl)⟩,fun y hy => by
         obtain rfl := hy
         exact ⟨(S,26 + 2 * i64.wrap ((u64.wrap (at2 b (i64.wrap (aS - 1))).pl).tmod (4 : Int)),(at2 b (i64.wrap (aS - 1))).vl,z,k,yz S z k),qq (⟨rfl,rfl,qq (⟨⟨⟨li_op hI.1 h1 h8,data_is (tmod4 rfl)⟩,rfl⟩,fun y hy => by
          obtain rfl := hy
          exact ⟨⟨rfl,rfl,rfl,trivial⟩,fun h => bne_absurd h,fun h25 => ⟨fun h26 => ⟨⟨i,writeX ((26 : Int) + 2 * i64.wrap ((u64.wrap (at2 b (i64.wrap (aS - 1))).pl).tmod (4 : Int))) ((at2 b (i64.wrap (aS - 1))).vl) S,z,k,O,zo,ko,i64.wrap (aS + 1),(0 : Int),aO,bO⟩,qq (⟨rfl,rfl,rfl,rfl,rfl,rfl,rfl,rfl,⟨(li_write (data_is (tmod4 rfl)) hI.1 h1 h8 h15 hI.2.2.2.2),hI.2.1,hI.2.2⟩,(msr1 hI.2.1 hI.2.2.1),trivial⟩)⟩,fun h => one_absurd h⟩⟩,trivial⟩)⟩)⟩,trivial⟩)⟩)⟩⟩⟩⟩,fun h28 => ⟨S,qq (⟨(li_at hI.1 h28),fun y hy => by
           obtain ⟨rfl,h30⟩ := hy
           exact ⟨(S,yz S z k),qq (qq (⟨⟨li_at hI.1 h28,li_yv hI.1 h28⟩,fun y hy => by
            obtain ⟨rfl,h32⟩ := hy
            exact ⟨fun h => bne_absurd h,fun h33 => ⟨fun h34 => ⟨fun h => like_absurd h,fun h35 => ⟨fun h36 => ⟨fun h37 => ⟨⟨i,stepX S,stY (stepX S).part,(stepX S).i,O,zo,ko,(0 : Int),(0 : Int),aO,bO⟩,qq (⟨rfl,rfl,rfl,rfl,rfl,rfl,rfl,rfl,⟨(li_step hI.1 h28 (le_th hI.2.1 hI.2.2.1) h36 h37),hI.2.1,hI.2.2⟩,(msr1 hI.2.1 hI.2.2.1),trivial⟩)⟩,fun h38 => ⟨⟨i,stepX S,stY (stepX S).part,(stepX S).i,O,zo,ko,aS,(0 : Int),aO,bO⟩,qq (⟨rfl,rfl,rfl,rfl,rfl,rfl,rfl,rfl,⟨(li_step hI.1 h28 (le_th hI.2.1 hI.2.2.1) h36 h38),hI.2.1,hI.2.2⟩,(msr1 hI.2.1 hI.2.2.1),trivial⟩)⟩⟩,fun h39 => ⟨fun h40 => ⟨⟨i,stepX S,stY (stepX S).part,(stepX S).i,O,zo,ko,(0 : Int),bS,aO,bO⟩,qq (⟨rfl,rfl,rfl,rfl,rfl,rfl,rfl,rfl,⟨(li_step hI.1 h28 (le_th hI.2.1 hI.2.2.1) h39 h40),hI.2.1,hI.2.2⟩,(msr1 hI.2.1 hI.2.2.1),trivial⟩)⟩,fun h41 => ⟨⟨i,stepX S,stY (stepX S).part,(stepX S).i,O,zo,ko,aS,bS,aO,bO⟩,qq (⟨rfl,rfl,rfl,rfl,rfl,rfl,rfl,rfl,⟨(li_step hI.1 h28 (le_th hI.2.1 hI.2.2.1) h39 h41),hI.2.1,hI.2.2⟩,(msr1 hI.2.1 hI.2.2.1),trivial⟩)⟩⟩⟩⟩,fun h => beq_absurd h⟩⟩,fun y hy => absurd hy.2 h30,trivial⟩))⟩,fun y hy => by
             obtain ⟨rfl,h45⟩ := hy
             exact ⟨(S,yz S z k),qq (qq (⟨⟨li_at hI.1 h28,li_yv hI.1 h28⟩,fun y hy => absurd h45 hy.2,fun y hy => by
              obtain ⟨rfl,h49⟩ := hy
              exact ⟨fun h => bne_absurd h,fun h50 => ⟨fun h51 => ⟨fun h => like_absurd h,fun h52 => ⟨fun h53 => ⟨fun h54 => ⟨⟨i,stepX S,stY (stepX S).part,(stepX S).i,O,zo,ko,(0 : Int),(0 : Int),aO,bO⟩,qq (⟨rfl,rfl,rfl,rfl,rfl,rfl,rfl,rfl,⟨(li_step hI.1 h28 (le_th hI.2.1 hI.2.2.1) h53 h54),hI.2.1,hI.2.2⟩,(msr1 hI.2.1 hI.2.2.1),trivial⟩)⟩,fun h55 => ⟨⟨i,stepX S,stY (stepX S).part,(stepX S).i,O,zo,ko,aS,(0 : Int),aO,bO⟩,qq (⟨rfl,rfl,rfl,rfl,rfl,rfl,rfl,rfl,⟨(li_step hI.1 h28 (le_th hI.2.1 hI.2.2.1) h53 h55),hI.2.1,hI.2.2⟩,(msr1 hI.2.1 hI.2.2.1),trivial⟩)⟩⟩,fun h56 => ⟨fun h57 => ⟨⟨i,stepX S,stY (stepX S).part,(stepX S).i,O,zo,ko,(0 : Int),bS,aO,bO⟩,qq (⟨rfl,rfl,rfl,rfl,rfl,rfl,rfl,rfl,⟨(li_step hI.1 h28 (le_th hI.2.1 hI.2.2.1) h56 h57),hI.2.1,hI.2.2⟩,(msr1 hI.2.1 hI.2.2.1),trivial⟩)⟩,fun h58 => ⟨⟨i,stepX S,stY (stepX S).part,(stepX S).i,O,zo,ko,aS,bS,aO,bO⟩,qq (⟨rfl,rfl,rfl,rfl,rfl,rfl,rfl,rfl,⟨(li_step hI.1 h28 (le_th hI.2.1 hI.2.2.1) h56 h58),hI.2.1,hI.2.2⟩,(msr1 hI.2.1 hI.2.2.1),trivial⟩)⟩⟩⟩⟩,fun h => beq_absurd h⟩⟩,trivial⟩))⟩,trivial⟩)⟩⟩
end Go.Proofs.YtmjjljngaefpaaaGreat

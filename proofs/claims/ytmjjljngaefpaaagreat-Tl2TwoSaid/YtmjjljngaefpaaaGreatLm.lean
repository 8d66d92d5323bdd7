/- Tl2Two: both attempts tell the same, both memories are the same: paid. -/
import Derived.Test.YtmjjljngaefpaaaGreatLk
import Derived.Test.YtmjjljngaefpaaaGreatYl
namespace Go.Proofs.YtmjjljngaefpaaaGreat
open Go.RowKit Go.Am Go.Sy
open Go.IntKind (i64 u64)
set_option linter.unusedVariables false
set_option linter.unusedSimpArgs false
theorem keys_e (s : Rs) : Go.Sy.Tree.holds (entryX F (lookC []) 400 Tryz.f127 b127 (keysF s.ls) [.fp (enc5 s)]) = ( ∃ (s_1 : Nat),[] = List.map (fun (x : Wo) => x.pl) (List.take s_1 s.ls) ∧ s.ls = s.ls ∧ (↑s.ls.length :
 Int) = (↑s.ls.length : Int) ∧ 0 = (↑s_1 : Int) ∧ s_1 ≤ s.ls.length ∧ True) := by kernel_rfl
theorem keys_4 (l : List Wo) (i : Nat) : Go.Sy.Tree.holds (cutVC F (lookC []) 400 Tryz.f127 b127 (keysF l) 4 (keysC l) i) = ( (decide ((↑i : Int) < (↑l.length : Int)) = true → ((0 : Int) ≤ (↑i : Int) ∧ (↑i : Int) <
 (↑l.length : Int)) ∧ ((List.map (fun (x : Wo) => x.pl) (List.take i l)).length + [(at3 l (↑i : Int)).pl].length) * 8 ≤ 140737488355328 ∧ ∃ (s : Nat),List.map (fun (x : Wo) => x.pl) (List.take i l) ++ [(at3 l (↑i :
 Int)).pl] = List.map (fun (x : Wo) => x.pl) (List.take s l) ∧ l = l ∧ (↑l.length : Int) = (↑l.length : Int) ∧ i64.wrap ((↑i : Int) + 1) = (↑s : Int) ∧ s ≤ l.length ∧ l.length - s < l.length - i ∧ True) ∧ (decide
 ((↑i : Int) < (↑l.length : Int)) = false → List.map (fun (x : Wo) => x.pl) (List.take i l) = List.map (fun (x : Wo) => x.pl) l ∧ True)) := by kernel_rfl
theorem same_e (l : List Int) : Go.Sy.Tree.holds (entryX F (lookC []) 400 Tryz.f22 b22 (sameF l) [.fp (enc8 ⟨l⟩),.fp (enc8 ⟨l⟩)]) = ( l.length * 8 ≤ 140737488355328 ∧ (((↑l.length : Int) != (↑l.length : Int)) = true →
 constA (Value.bool false) = AVal.bool true ∧ True) ∧ (((↑l.length : Int) != (↑l.length : Int)) = false → (((↑l.length : Int) != (↑l.length : Int)) = true → constA (Value.bool false) = AVal.bool true ∧ True) ∧
 (((↑l.length : Int) != (↑l.length : Int)) = false → ∃ (s : Nat),l = l ∧ l = l ∧ 0 = (↑s : Int) ∧ s ≤ l.length ∧ True))) := by kernel_rfl
theorem same_5 (l : List Int) (i : Nat) : Go.Sy.Tree.holds (cutVC F (lookC []) 400 Tryz.f22 b22 (sameF l) 5 (sameC l) i) = ( (decide ((↑i : Int) < (↑l.length : Int)) = true → ((0 : Int) ≤ (↑i : Int) ∧ (↑i : Int) <
 (↑l.length : Int)) ∧ ((0 : Int) ≤ (↑i : Int) ∧ (↑i : Int) < (↑l.length : Int)) ∧ ((0 : Int) ≤ (↑i : Int) ∧ (↑i : Int) < (↑l.length : Int)) ∧ ((at0 l (↑i : Int) != at0 l (↑i : Int)) = true → constA (Value.bool false) =
 AVal.bool true ∧ True) ∧ ((at0 l (↑i : Int) != at0 l (↑i : Int)) = false → ∃ (s : Nat),l = l ∧ l = l ∧ i64.wrap ((↑i : Int) + 1) = (↑s : Int) ∧ s ≤ l.length ∧ l.length - s < l.length - i ∧ True)) ∧ (decide ((↑i
 : Int) < (↑l.length : Int)) = false → constA (Value.bool true) = AVal.bool true ∧ True)) := by kernel_rfl
theorem deci_e (x : Int) : Go.Sy.Tree.holds (entryX F (lookC []) 400 Tryz.f70 b70 ⟨[],.b (x == 2),[]⟩ [.fp (List.replicate 11 .any ++ enc0 x)]) = ( (x == 2) = (x == 2) ∧ True) := by kernel_rfl
theorem keys_4_ok (l : List Wo) (hl : l.length ≤ 1000) (i : Nat) (hi : i ≤ l.length) : Paid (cutVC F (lookC []) 400 Tryz.f127 b127 (keysF l) 4 (keysC l) i) := by
 refine ⟨?_⟩
 rw [keys_4]
 refine ⟨fun h => ?_,fun h => ?_⟩
 ·simp only [decide_eq_true_eq] at h
  have hlt : i < l.length := by omega
  rw [at3_get hlt]
  refine ⟨⟨by omega,h⟩, ?_,i + 1, ?_,rfl,rfl,by rw [wrap64 (by omega) (by omega)]; rfl,hlt,by omega,trivial⟩
  ·simp only [qh,List.length_take,qp,List.length_nil]; omega
  ·rw [List.take_succ_eq_append_getElem hlt,List.map_append]; rfl
 ·simp only [decide_eq_false_iff_not] at h
  rw [List.take_of_length_le (by omega)]
  exact ⟨rfl,trivial⟩
theorem keysOk : CtrOk1 F.S 127 (mkCtr keysD) :=
 mkCtr_paid (fn := Tryz.f127) (body := b127) (ctr := lookC []) codOk noExt hookLow noneOk Tryz.func127 rfl rfl (by kernel_rfl) keysD 400 (fun (x : Rs × Unit) => [(4,keysC x.1.ls)]) (show 1 ≤ Tryz.f127.ntmps by decide) (show Tryz.f127.ntmps ≤ 512 by decide) (by kernel_rfl) (fun _ _ => ⟨rfl,rfl⟩)
  (fun (x : Rs × Unit) h => by
   refine ⟨?_⟩
   show (entryX F (lookC []) 400 Tryz.f127 b127 (keysF x.1.ls) [.fp (enc5 x.1)]).holds
   rw [keys_e]
   exact ⟨0,rfl,rfl,rfl,rfl,Nat.zero_le _,trivial⟩) (fun (x : Rs × Unit) h q hm s hI => by
   simp only [qb1] at hm
   subst hm
   exact keys_4_ok x.1.ls h s hI)
theorem same_5_ok (l : List Int) (hl : l.length = 34) (i : Nat) (hi : i ≤ l.length) : Paid (cutVC F (lookC []) 400 Tryz.f22 b22 (sameF l) 5 (sameC l) i) := by
 refine ⟨?_⟩
 rw [same_5]
 refine ⟨fun h => ?_,fun h => ⟨rfl,trivial⟩⟩
 simp only [decide_eq_true_eq] at h
 exact ⟨⟨by omega,h⟩,⟨by omega,h⟩,⟨by omega,h⟩,fun g => absurd g (by rw [qx]; decide),fun _ => ⟨i + 1,rfl,rfl,by rw [wrap64 (by omega) (by omega)]; rfl,by omega,by omega,trivial⟩⟩
theorem sameOk : CtrOk1 F.S 22 (mkCtr sameD) :=
 mkCtr_paid (fn := Tryz.f22) (body := b22) (ctr := lookC []) codOk noExt hookLow noneOk Tryz.func22 rfl rfl (by kernel_rfl) sameD 400 (fun (x : Mw × Mw × Unit) => [(5,sameC x.1.ws)]) (show 2 ≤ Tryz.f22.ntmps by decide) (show Tryz.f22.ntmps ≤ 512 by decide) (by kernel_rfl) (fun _ _ => ⟨rfl,rfl⟩)
  (fun (x : Mw × Mw × Unit) h => by
   obtain ⟨⟨l⟩,⟨l2⟩,u⟩ := x
   obtain ⟨h1,h2⟩ := h
   obtain rfl : l = l2 := h1
   have h2 : l.length = 34 := h2
   refine ⟨?_⟩
   show (entryX F (lookC []) 400 Tryz.f22 b22 (sameF l) [.fp (enc8 ⟨l⟩),.fp (enc8 ⟨l⟩)]).holds
   rw [same_e]
   exact ⟨by omega,fun g => absurd g (by rw [qx]; decide),fun _ => ⟨fun g => absurd g (by rw [qx]; decide),fun _ => ⟨0,rfl,rfl,rfl,Nat.zero_le _,trivial⟩⟩⟩) (fun (x : Mw × Mw × Unit) h q hm s hI => by
   obtain ⟨⟨l⟩,⟨l2⟩,u⟩ := x
   obtain ⟨h1,h2⟩ := h
   obtain rfl : l = l2 := h1
   simp only [qb1] at hm
   subst hm
   exact same_5_ok l h2 s hI)
theorem deci_ok (x : Int) : Paid (entryX F (lookC []) 400 Tryz.f70 b70 ⟨[],.b (x == 2),[]⟩ [.fp (List.replicate 11 .any ++ enc0 x)]) := by
 refine ⟨?_⟩
 rw [deci_e]
 exact ⟨rfl,trivial⟩
theorem deciOk : CtrOk1 F.S 70 (mkCtr deciD) :=
 mkCtr_paid (fn := Tryz.f70) (body := b70) (ctr := lookC []) codOk noExt hookLow noneOk Tryz.func70 rfl rfl (by kernel_rfl) deciD 400 (fun _ => []) (show 1 ≤ Tryz.f70.ntmps by decide) (show Tryz.f70.ntmps ≤ 512 by decide) (by kernel_rfl) (fun _ _ => ⟨rfl,rfl⟩)
  (fun (x : Int × Unit) h => deci_ok x.1) (fun x h q hm => by cases hm)
theorem lKOk : CtrOk F.S (lookC lK) := lookC_ok fun p h => by
 simp only [lK,qn,qs,or_false] at h
 rcases h with rfl | rfl
 ·exact keysOk
 ·exact deciOk
theorem at_map {l : List Wo} {n : Nat} (h : n < l.length) : at0 (List.map (fun (x : Wo) => x.pl) l) (n : Int) = (at3 l (n : Int)).pl := by
 rw [at0_get (by rw [qh]; exact h),at3_get h,List.getElem_map]
variable (code th c life job part : Int) (i : Nat) (at_ row seen val value cause stamp made bk bst bse bsp : Int) (ph ld : Bool) (rs ws tk : List Wo) (rows W : List Int) (asked steps lk la lv ls ybk ybst ybse ybsp z : Int) (k : Nat)
variable (o : Nat → Option Ob)
theorem lk_ (I : XM → Prop) (al su yph : Bool) (old : List Int) : Go.Sy.Tree.holds (vcC cK (lkD I) (⟨code,th,c,life,job,part,i,at_,row,seen,val,value,cause,stamp,made,bk,bst,bse,bsp,ph,rs,ws,asked,
 rows,tk,W,steps,lk,la,lv,ls,ld,ybk,ybst,ybse,ybsp⟩,z,k,⟨code,th,c,al,su,yph,job,z,k,at_,seen,val,value,cause,stamp,made,ybk,ybst,ybse,ybsp,rs,ws,asked,rows,old,W,steps,lk,la,
 lv,ls,ld⟩) (hpF o 0 34)) = ( (fun (T : Prop → Prop) => ((value !=
 value) = true → T (constA (Value.bool false) = AVal.bool true)) ∧ ((value != value) = false → ((cause != cause) = true → T (constA (Value.bool false) = AVal.bool true)) ∧ ((cause != cause) = false → ((stamp != stamp) =
 true → T (constA (Value.bool false) = AVal.bool true)) ∧ ((stamp != stamp) = false → ((made != made) = true → T (constA (Value.bool false) = AVal.bool true)) ∧ ((made != made) = false → deciD.pre (life,()) ∧ ((!(life ==
 2) == su) = true → T (constA (Value.bool false) = AVal.bool true)) ∧ ((!(life == 2) == su) = false → keysD.pre (Rs.mk (32 : Int) rs,()) ∧ ws.length * 16 ≤ 140737488355328 ∧ (((↑(List.map (fun (x : Wo) => x.pl)
 rs).length : Int) != (↑rs.length : Int)) = true → T (constA (Value.bool false) = AVal.bool true)) ∧ (((↑(List.map (fun (x : Wo) => x.pl) rs).length : Int) != (↑rs.length : Int)) = false → (((↑ws.length : Int) !=
 (↑ws.length : Int)) = true → T (constA (Value.bool false) = AVal.bool true)) ∧ (((↑ws.length : Int) != (↑ws.length : Int)) = false → (decide ((0 : Int) < (↑(List.map (fun (x : Wo) => x.pl) rs).length : Int)) = true → Bd
 2 ((0 : Int)) (↑(List.map (fun (x : Wo) => x.pl) rs).length : Int) (Bd 2 ((0 : Int)) (↑rs.length : Int) (((at0 (List.map (fun (x : Wo) => x.pl) rs) 0 != (at3 rs (0 : Int)).pl) = true → T (constA (Value.bool
 false) = AVal.bool true)) ∧ ((at0 (List.map (fun (x : Wo) => x.pl) rs) 0 != (at3 rs (0 : Int)).pl) = false → (decide ((1 : Int) < (↑(List.map (fun (x : Wo) => x.pl) rs).length : Int)) = true → Bd 2 ((1 : Int))
 (↑(List.map (fun (x : Wo) => x.pl) rs).length : Int) (Bd 2 ((1 : Int)) (↑rs.length : Int) (((at0 (List.map (fun (x : Wo) => x.pl) rs) 1 != (at3 rs (1 : Int)).pl) = true → T (constA (Value.bool false) = AVal.bool
 true)) ∧ ((at0 (List.map (fun (x : Wo) => x.pl) rs) 1 != (at3 rs (1 : Int)).pl) = false → (decide ((2 : Int) < (↑(List.map (fun (x : Wo) => x.pl) rs).length : Int)) = true → Bd 2 ((2 : Int)) (↑(List.map (fun (x :
 Wo) => x.pl) rs).length : Int) (Bd 2 ((2 : Int)) (↑rs.length : Int) (((at0 (List.map (fun (x : Wo) => x.pl) rs) 2 != (at3 rs (2 : Int)).pl) = true → T (constA (Value.bool false) = AVal.bool true)) ∧ ((at0
 (List.map (fun (x : Wo) => x.pl) rs) 2 != (at3 rs (2 : Int)).pl) = false → (decide ((3 : Int) < (↑(List.map (fun (x : Wo) => x.pl) rs).length : Int)) = true → Bd 2 ((3 : Int)) (↑(List.map (fun (x : Wo) => x.pl)
 rs).length : Int) (Bd 2 ((3 : Int)) (↑rs.length : Int) (((at0 (List.map (fun (x : Wo) => x.pl) rs) 3 != (at3 rs (3 : Int)).pl) = true → T (constA (Value.bool false) = AVal.bool true)) ∧ ((at0 (List.map (fun (x :
 Wo) => x.pl) rs) 3 != (at3 rs (3 : Int)).pl) = false → (decide ((4 : Int) < (↑(List.map (fun (x : Wo) => x.pl) rs).length : Int)) = true → Bd 2 ((4 : Int)) (↑(List.map (fun (x : Wo) => x.pl) rs).length : Int) (Bd
 2 ((4 : Int)) (↑rs.length : Int) (((at0 (List.map (fun (x : Wo) => x.pl) rs) 4 != (at3 rs (4 : Int)).pl) = true → T (constA (Value.bool false) = AVal.bool true)) ∧ ((at0 (List.map (fun (x : Wo) => x.pl) rs) 4 != (at3 rs (4 : Int)).pl) = false → (decide ((5 : Int) < (↑(List.map (fun (x : Wo) => x.pl) rs).length : Int)) = true → Bd 2 ((5 : Int)) (↑(List.map (fun (x : Wo) => x.pl) rs).length : Int) (Bd 2 ((5 : Int))
 (↑rs.length : Int) (((at0 (List.map (fun (x : Wo) => x.pl) rs) 5 != (at3 rs (5 : Int)).pl) = true → T (constA (Value.bool false) = AVal.bool true)) ∧ ((at0 (List.map (fun (x : Wo) => x.pl) rs) 5 != (at3
 rs (5 : Int)).pl) = false → (decide ((6 : Int) < (↑(List.map (fun (x : Wo) => x.pl) rs).length : Int)) = true → Bd 2 ((6 : Int)) (↑(List.map (fun (x : Wo) => x.pl) rs).length : Int) (Bd 2 ((6 : Int)) (↑rs.length : Int)
 (((at0 (List.map (fun (x : Wo) => x.pl) rs) 6 != (at3 rs (6 : Int)).pl) = true → T (constA (Value.bool false) = AVal.bool true)) ∧ ((at0 (List.map (fun (x : Wo) => x.pl) rs) 6 != (at3 rs (6 : Int)).pl) =
 false → (decide ((7 : Int) < (↑(List.map (fun (x : Wo) => x.pl) rs).length : Int)) = true → Bd 2 ((7 : Int)) (↑(List.map (fun (x : Wo) => x.pl) rs).length : Int) (Bd 2 ((7 : Int)) (↑rs.length : Int) (((at0 (List.map (fun
 (x : Wo) => x.pl) rs) 7 != (at3 rs (7 : Int)).pl) = true → T (constA (Value.bool false) = AVal.bool true)) ∧ ((at0 (List.map (fun (x : Wo) => x.pl) rs) 7 != (at3 rs (7 : Int)).pl) = false → (decide ((8 :
 Int) < (↑(List.map (fun (x : Wo) => x.pl) rs).length : Int)) = true → Stuck "fuel") ∧ (decide ((8 : Int) < (↑(List.map (fun (x : Wo) => x.pl) rs).length : Int)) = false → Stuck "fuel"))))) ∧ (decide ((7 : Int) <
 (↑(List.map (fun (x : Wo) => x.pl) rs).length : Int)) = false → (decide ((0 : Int) < (↑ws.length : Int)) = true → Bd 4 ((0 : Int)) (↑ws.length : Int) (((!((at3 ws (0 : Int)).pl == (at3 ws (0 : Int)).pl && ((at3 ws (0 :
 Int)).vl == (at3 ws (0 : Int)).vl && true))) = true → Stuck "fuel") ∧ ((!((at3 ws (0 : Int)).pl == (at3 ws (0 : Int)).pl && ((at3 ws (0 : Int)).vl == (at3 ws (0 : Int)).vl && true))) = false → Stuck "fuel"))) ∧ (decide
 ((0 : Int) < (↑ws.length : Int)) = false → T (constA (Value.bool true) = AVal.bool true))))))) ∧ (decide ((6 : Int) < (↑(List.map (fun (x : Wo) => x.pl) rs).length : Int)) = false → (decide ((0 : Int) < (↑ws.length :
 Int)) = true → Bd 4 ((0 : Int)) (↑ws.length : Int) (((!((at3 ws (0 : Int)).pl == (at3 ws (0 : Int)).pl && ((at3 ws (0 : Int)).vl == (at3 ws (0 : Int)).vl && true))) = true → T (constA (Value.bool false) = AVal.bool
 true)) ∧ ((!((at3 ws (0 : Int)).pl == (at3 ws (0 : Int)).pl && ((at3 ws (0 : Int)).vl == (at3 ws (0 : Int)).vl && true))) = false → (decide ((1 : Int) < (↑ws.length : Int)) = true → Bd 4 ((1 : Int)) (↑ws.length : Int)
 (((!((at3 ws (1 : Int)).pl == (at3 ws (1 : Int)).pl && ((at3 ws (1 : Int)).vl == (at3 ws (1 : Int)).vl && true))) = true → Stuck "fuel") ∧ ((!((at3 ws (1 : Int)).pl == (at3 ws (1 : Int)).pl && ((at3 ws (1 : Int)).vl ==
 (at3 ws (1 : Int)).vl && true))) = false → Stuck "fuel"))) ∧ (decide ((1 : Int) < (↑ws.length : Int)) = false → T (constA (Value.bool true) = AVal.bool true))))) ∧ (decide ((0 : Int) < (↑ws.length : Int)) = false → T
 (constA (Value.bool true) = AVal.bool true))))))) ∧ (decide ((5 : Int) < (↑(List.map (fun (x : Wo) => x.pl) rs).length : Int)) = false → (decide ((0 : Int) < (↑ws.length : Int)) = true → Bd 4 ((0 : Int)) (↑ws.length :
 Int) (((!((at3 ws (0 : Int)).pl == (at3 ws (0 : Int)).pl && ((at3 ws (0 : Int)).vl == (at3 ws (0 : Int)).vl && true))) = true → T (constA (Value.bool false) = AVal.bool true)) ∧ ((!((at3 ws (0 : Int)).pl == (at3 ws (0 :
 Int)).pl && ((at3 ws (0 : Int)).vl == (at3 ws (0 : Int)).vl && true))) = false → (decide ((1 : Int) < (↑ws.length : Int)) = true → Bd 4 ((1 : Int)) (↑ws.length : Int) (((!((at3 ws (1 : Int)).pl == (at3 ws (1 : Int)).pl
 && ((at3 ws (1 : Int)).vl == (at3 ws (1 : Int)).vl && true))) = true → T (constA (Value.bool false) = AVal.bool true)) ∧ ((!((at3 ws (1 : Int)).pl == (at3 ws (1 : Int)).pl && ((at3 ws (1 : Int)).vl == (at3 ws (1 :
 Int)).vl && true))) = false → (decide ((2 : Int) < (↑ws.length : Int)) = true → Bd 4 ((2 : Int)) (↑ws.length : Int) (((!((at3 ws (2 : Int)).pl == (at3 ws (2 : Int)).pl && ((at3 ws (2 : Int)).vl == (at3 ws (2 : Int)).vl
 && true))) = true → Stuck "fuel") ∧ ((!((at3 ws (2 : Int)).pl == (at3 ws (2 : Int)).pl && ((at3 ws (2 : Int)).vl == (at3 ws (2 : Int)).vl && true))) = false → Stuck "fuel"))) ∧ (decide ((2 : Int) < (↑ws.length : Int)) =
 false → T (constA (Value.bool true) = AVal.bool true))))) ∧ (decide ((1 : Int) < (↑ws.length : Int)) = false → T (constA (Value.bool true) = AVal.bool true))))) ∧ (decide ((0 : Int) < (↑ws.length : Int)) = false → T
 (constA (Value.bool true) = AVal.bool true))))))) ∧ (decide ((4 : Int) < (↑(List.map (fun (x : Wo) => x.pl) rs).length : Int)) = false → (decide ((0 : Int) < (↑ws.length : Int)) = true → Bd 4 ((0 : Int)) (↑ws.length :
 Int) (((!((at3 ws (0 : Int)).pl == (at3 ws (0 : Int)).pl && ((at3 ws (0 : Int)).vl == (at3 ws (0 : Int)).vl && true))) = true → T (constA (Value.bool false) = AVal.bool true)) ∧ ((!((at3 ws (0 : Int)).pl == (at3 ws (0 :
 Int)).pl && ((at3 ws (0 : Int)).vl == (at3 ws (0 : Int)).vl && true))) = false → (decide ((1 : Int) < (↑ws.length : Int)) = true → Bd 4 ((1 : Int)) (↑ws.length : Int) (((!((at3 ws (1 : Int)).pl == (at3 ws (1 : Int)).pl
 && ((at3 ws (1 : Int)).vl == (at3 ws (1 : Int)).vl && true))) = true → T (constA (Value.bool false) = AVal.bool true)) ∧ ((!((at3 ws (1 : Int)).pl == (at3 ws (1 : Int)).pl && ((at3 ws (1 : Int)).vl == (at3 ws (1 :
 Int)).vl && true))) = false → (decide ((2 : Int) < (↑ws.length : Int)) = true → Bd 4 ((2 : Int)) (↑ws.length : Int) (((!((at3 ws (2 : Int)).pl == (at3 ws (2 : Int)).pl && ((at3 ws (2 : Int)).vl == (at3 ws (2 : Int)).vl
 && true))) = true → T (constA (Value.bool false) = AVal.bool true)) ∧ ((!((at3 ws (2 : Int)).pl == (at3 ws (2 : Int)).pl && ((at3 ws (2 : Int)).vl == (at3 ws (2 : Int)).vl && true))) = false → (decide ((3 : Int) <
 (↑ws.length : Int)) = true → Bd 4 ((3 : Int)) (↑ws.length : Int) (((!((at3 ws (3 : Int)).pl == (at3 ws (3 : Int)).pl && ((at3 ws (3 : Int)).vl == (at3 ws (3 : Int)).vl && true))) = true → Stuck "fuel") ∧ ((!((at3 ws (3 :
 Int)).pl == (at3 ws (3 : Int)).pl && ((at3 ws (3 : Int)).vl == (at3 ws (3 : Int)).vl && true))) = false → Stuck "fuel"))) ∧ (decide ((3 : Int) < (↑ws.length : Int)) = false → T (constA (Value.bool true) = AVal.bool
 true))))) ∧ (decide ((2 : Int) < (↑ws.length : Int)) = false → T (constA (Value.bool true) = AVal.bool true))))) ∧ (decide ((1 : Int) < (↑ws.length : Int)) = false → T (constA (Value.bool true) = AVal.bool true))))) ∧
 (decide ((0 : Int) < (↑ws.length : Int)) = false → T (constA (Value.bool true) = AVal.bool true))))))) ∧ (decide ((3 : Int) < (↑(List.map (fun (x : Wo) => x.pl) rs).length : Int)) = false → (decide ((0 : Int) <
 (↑ws.length : Int)) = true → Bd 4 ((0 : Int)) (↑ws.length : Int) (((!((at3 ws (0 : Int)).pl == (at3 ws (0 : Int)).pl && ((at3 ws (0 : Int)).vl == (at3 ws (0 : Int)).vl && true))) = true → T (constA (Value.bool false) =
 AVal.bool true)) ∧ ((!((at3 ws (0 : Int)).pl == (at3 ws (0 : Int)).pl && ((at3 ws (0 : Int)).vl == (at3 ws (0 : Int)).vl && true))) = false → (decide ((1 : Int) < (↑ws.length : Int)) = true → Bd 4 ((1 : Int)) (↑ws.length
 : Int) (((!((at3 ws (1 : Int)).pl == (at3 ws (1 : Int)).pl && ((at3 ws (1 : Int)).vl == (at3 ws (1 : Int)).vl && true))) = true → T (constA (Value.bool false) = AVal.bool true)) ∧ ((!((at3 ws (1 : Int)).pl == (at3 ws (1
 : Int)).pl && ((at3 ws (1 : Int)).vl == (at3 ws (1 : Int)).vl && true))) = false → (decide ((2 : Int) < (↑ws.length : Int)) = true → Bd 4 ((2 : Int)) (↑ws.length : Int) (((!((at3 ws (2 : Int)).pl == (at3 ws (2 : Int)).pl
 && ((at3 ws (2 : Int)).vl == (at3 ws (2 : Int)).vl && true))) = true → T (constA (Value.bool false) = AVal.bool true)) ∧ ((!((at3 ws (2 : Int)).pl == (at3 ws (2 : Int)).pl && ((at3 ws (2 : Int)).vl == (at3 ws (2 :
 Int)).vl && true))) = false → (decide ((3 : Int) < (↑ws.length : Int)) = true → Bd 4 ((3 : Int)) (↑ws.length : Int) (((!((at3 ws (3 : Int)).pl == (at3 ws (3 : Int)).pl && ((at3 ws (3 : Int)).vl == (at3 ws (3 : Int)).vl
 && true))) = true → T (constA (Value.bool false) = AVal.bool true)) ∧ ((!((at3 ws (3 : Int)).pl == (at3 ws (3 : Int)).pl && ((at3 ws (3 : Int)).vl == (at3 ws (3 : Int)).vl && true))) = false → (decide ((4 : Int) <
 (↑ws.length : Int)) = true → Bd 4 ((4 : Int)) (↑ws.length : Int) (((!((at3 ws (4 : Int)).pl == (at3 ws (4 : Int)).pl && ((at3 ws (4 : Int)).vl == (at3 ws (4 : Int)).vl && true))) = true → Stuck "fuel") ∧ ((!((at3 ws (4 :
 Int)).pl == (at3 ws (4 : Int)).pl && ((at3 ws (4 : Int)).vl == (at3 ws (4 : Int)).vl && true))) = false → Stuck "fuel"))) ∧ (decide ((4 : Int) < (↑ws.length : Int)) = false → T (constA (Value.bool true) = AVal.bool
 true))))) ∧ (decide ((3 : Int) < (↑ws.length : Int)) = false → T (constA (Value.bool true) = AVal.bool true))))) ∧ (decide ((2 : Int) < (↑ws.length : Int)) = false → T (constA (Value.bool true) = AVal.bool true))))) ∧
 (decide ((1 : Int) < (↑ws.length : Int)) = false → T (constA (Value.bool true) = AVal.bool true))))) ∧ (decide ((0 : Int) < (↑ws.length : Int)) = false → T (constA (Value.bool true) = AVal.bool true))))))) ∧ (decide ((2
 : Int) < (↑(List.map (fun (x : Wo) => x.pl) rs).length : Int)) = false → (decide ((0 : Int) < (↑ws.length : Int)) = true → Bd 4 ((0 : Int)) (↑ws.length : Int) (((!((at3 ws (0 : Int)).pl == (at3 ws (0 : Int)).pl && ((at3
 ws (0 : Int)).vl == (at3 ws (0 : Int)).vl && true))) = true → T (constA (Value.bool false) = AVal.bool true)) ∧ ((!((at3 ws (0 : Int)).pl == (at3 ws (0 : Int)).pl && ((at3 ws (0 : Int)).vl == (at3 ws (0 : Int)).vl &&
 true))) = false → (decide ((1 : Int) < (↑ws.length : Int)) = true → Bd 4 ((1 : Int)) (↑ws.length : Int) (((!((at3 ws (1 : Int)).pl == (at3 ws (1 : Int)).pl && ((at3 ws (1 : Int)).vl == (at3 ws (1 : Int)).vl && true))) =
 true → T (constA (Value.bool false) = AVal.bool true)) ∧ ((!((at3 ws (1 : Int)).pl == (at3 ws (1 : Int)).pl && ((at3 ws (1 : Int)).vl == (at3 ws (1 : Int)).vl && true))) = false → (decide ((2 : Int) < (↑ws.length : Int))
 = true → Bd 4 ((2 : Int)) (↑ws.length : Int) (((!((at3 ws (2 : Int)).pl == (at3 ws (2 : Int)).pl && ((at3 ws (2 : Int)).vl == (at3 ws (2 : Int)).vl && true))) = true → T (constA (Value.bool false) = AVal.bool true)) ∧
 ((!((at3 ws (2 : Int)).pl == (at3 ws (2 : Int)).pl && ((at3 ws (2 : Int)).vl == (at3 ws (2 : Int)).vl && true))) = false → (decide ((3 : Int) < (↑ws.length : Int)) = true → Bd 4 ((3 : Int)) (↑ws.length : Int) (((!((at3
 ws (3 : Int)).pl == (at3 ws (3 : Int)).pl && ((at3 ws (3 : Int)).vl == (at3 ws (3 : Int)).vl && true))) = true → T (constA (Value.bool false) = AVal.bool true)) ∧ ((!((at3 ws (3 : Int)).pl == (at3 ws (3 : Int)).pl &&
 ((at3 ws (3 : Int)).vl == (at3 ws (3 : Int)).vl && true))) = false → (decide ((4 : Int) < (↑ws.length : Int)) = true → Bd 4 ((4 : Int)) (↑ws.length : Int) (((!((at3 ws (4 : Int)).pl == (at3 ws (4 : Int)).pl && ((at3 ws
 4).vl == (at3 ws (4 : Int)).vl && true))) = true → T (constA (Value.bool false) = AVal.bool true)) ∧ ((!((at3 ws (4 : Int)).pl == (at3 ws (4 : Int)).pl && ((at3 ws (4 : Int)).vl == (at3 ws (4 : Int)).vl &&
 true))) = false → (decide ((5 : Int) < (↑ws.length : Int)) = true → Bd 4 ((5 : Int)) (↑ws.length : Int) (((!((at3 ws (5 : Int)).pl == (at3 ws (5 : Int)).pl && ((at3 ws (5 : Int)).vl == (at3 ws (5 : Int)).vl && true))) =
 true → Stuck "fuel") ∧ ((!((at3 ws (5 : Int)).pl == (at3 ws (5 : Int)).pl && ((at3 ws (5 : Int)).vl == (at3 ws (5 : Int)).vl && true))) = false → Stuck "fuel"))) ∧ (decide ((5 : Int) < (↑ws.length : Int)) = false → T
 (constA (Value.bool true) = AVal.bool true))))) ∧ (decide ((4 : Int) < (↑ws.length : Int)) = false → T (constA (Value.bool true) = AVal.bool true))))) ∧ (decide ((3 : Int) < (↑ws.length : Int)) = false → T (constA
 (Value.bool true) = AVal.bool true))))) ∧ (decide ((2 : Int) < (↑ws.length : Int)) = false → T (constA (Value.bool true) = AVal.bool true))))) ∧ (decide ((1 : Int) < (↑ws.length : Int)) = false → T (constA (Value.bool
 true) = AVal.bool true))))) ∧ (decide ((0 : Int) < (↑ws.length : Int)) = false → T (constA (Value.bool true) = AVal.bool true))))))) ∧ (decide ((1 : Int) < (↑(List.map (fun (x : Wo) => x.pl) rs).length : Int)) = false →
 (decide ((0 : Int) < (↑ws.length : Int)) = true → Bd 4 ((0 : Int)) (↑ws.length : Int) (((!((at3 ws (0 : Int)).pl == (at3 ws (0 : Int)).pl && ((at3 ws (0 : Int)).vl == (at3 ws (0 : Int)).vl && true))) = true → T (constA
 (Value.bool false) = AVal.bool true)) ∧ ((!((at3 ws (0 : Int)).pl == (at3 ws (0 : Int)).pl && ((at3 ws (0 : Int)).vl == (at3 ws (0 : Int)).vl && true))) = false → (decide ((1 : Int) < (↑ws.length : Int)) = true → Bd 4
 ((1 : Int)) (↑ws.length : Int) (((!((at3 ws (1 : Int)).pl == (at3 ws (1 : Int)).pl && ((at3 ws (1 : Int)).vl == (at3 ws (1 : Int)).vl && true))) = true → T (constA (Value.bool false) = AVal.bool true)) ∧ ((!((at3 ws (1 :
 Int)).pl == (at3 ws (1 : Int)).pl && ((at3 ws (1 : Int)).vl == (at3 ws (1 : Int)).vl && true))) = false → (decide ((2 : Int) < (↑ws.length : Int)) = true → Bd 4 ((2 : Int)) (↑ws.length : Int) (((!((at3 ws (2 : Int)).pl
 == (at3 ws (2 : Int)).pl && ((at3 ws (2 : Int)).vl == (at3 ws (2 : Int)).vl && true))) = true → T (constA (Value.bool false) = AVal.bool true)) ∧ ((!((at3 ws (2 : Int)).pl == (at3 ws (2 : Int)).pl && ((at3 ws (2 :
 Int)).vl == (at3 ws (2 : Int)).vl && true))) = false → (decide ((3 : Int) < (↑ws.length : Int)) = true → Bd 4 ((3 : Int)) (↑ws.length : Int) (((!((at3 ws (3 : Int)).pl == (at3 ws (3 : Int)).pl && ((at3 ws (3 : Int)).vl
 == (at3 ws (3 : Int)).vl && true))) = true → T (constA (Value.bool false) = AVal.bool true)) ∧ ((!((at3 ws (3 : Int)).pl == (at3 ws (3 : Int)).pl && ((at3 ws (3 : Int)).vl == (at3 ws (3 : Int)).vl && true))) = false →
 (decide ((4 : Int) < (↑ws.length : Int)) = true → Bd 4 ((4 : Int)) (↑ws.length : Int) (((!((at3 ws (4 : Int)).pl == (at3 ws (4 : Int)).pl && ((at3 ws (4 : Int)).vl == (at3 ws (4 : Int)).vl && true))) = true → T (constA
 (Value.bool false) = AVal.bool true)) ∧ ((!((at3 ws (4 : Int)).pl == (at3 ws (4 : Int)).pl && ((at3 ws (4 : Int)).vl == (at3 ws (4 : Int)).vl && true))) = false → (decide ((5 : Int) < (↑ws.length : Int)) = true → Bd 4
 ((5 : Int)) (↑ws.length : Int) (((!((at3 ws (5 : Int)).pl == (at3 ws (5 : Int)).pl && ((at3 ws (5 : Int)).vl == (at3 ws (5 : Int)).vl && true))) = true → T (constA (Value.bool false) = AVal.bool true)) ∧ ((!((at3 ws (5 :
 Int)).pl == (at3 ws (5 : Int)).pl && ((at3 ws (5 : Int)).vl == (at3 ws (5 : Int)).vl && true))) = false → (decide ((6 : Int) < (↑ws.length : Int)) = true → Bd 4 ((6 : Int)) (↑ws.length : Int) (((!((at3 ws (6 : Int)).pl
 == (at3 ws (6 : Int)).pl && ((at3 ws (6 : Int)).vl == (at3 ws (6 : Int)).vl && true))) = true → Stuck "fuel") ∧ ((!((at3 ws (6 : Int)).pl == (at3 ws (6 : Int)).pl && ((at3 ws (6 : Int)).vl == (at3 ws (6 : Int)).vl &&
 true))) = false → Stuck "fuel"))) ∧ (decide ((6 : Int) < (↑ws.length : Int)) = false → T (constA (Value.bool true) = AVal.bool true))))) ∧ (decide ((5 : Int) < (↑ws.length : Int)) = false → T (constA (Value.bool true) =
 AVal.bool true))))) ∧ (decide ((4 : Int) < (↑ws.length : Int)) = false → T (constA (Value.bool true) = AVal.bool true))))) ∧ (decide ((3 : Int) < (↑ws.length : Int)) = false → T (constA (Value.bool true) = AVal.bool
 true))))) ∧ (decide ((2 : Int) < (↑ws.length : Int)) = false → T (constA (Value.bool true) = AVal.bool true))))) ∧ (decide ((1 : Int) < (↑ws.length : Int)) = false → T (constA (Value.bool true) = AVal.bool true))))) ∧
 (decide ((0 : Int) < (↑ws.length : Int)) = false → T (constA (Value.bool true) = AVal.bool true))))))) ∧ (decide ((0 : Int) < (↑(List.map (fun (x : Wo) => x.pl) rs).length : Int)) = false → (decide ((0 : Int) <
 (↑ws.length : Int)) = true → Bd 4 ((0 : Int)) (↑ws.length : Int) (((!((at3 ws (0 : Int)).pl == (at3 ws (0 : Int)).pl && ((at3 ws (0 : Int)).vl == (at3 ws (0 : Int)).vl && true))) = true → T (constA (Value.bool false) =
 AVal.bool true)) ∧ ((!((at3 ws (0 : Int)).pl == (at3 ws (0 : Int)).pl && ((at3 ws (0 : Int)).vl == (at3 ws (0 : Int)).vl && true))) = false → (decide ((1 : Int) < (↑ws.length : Int)) = true → Bd 4 ((1 : Int)) (↑ws.length
 : Int) (((!((at3 ws (1 : Int)).pl == (at3 ws (1 : Int)).pl && ((at3 ws (1 : Int)).vl == (at3 ws (1 : Int)).vl && true))) = true → T (constA (Value.bool false) = AVal.bool true)) ∧ ((!((at3 ws (1 : Int)).pl == (at3 ws (1
 : Int)).pl && ((at3 ws (1 : Int)).vl == (at3 ws (1 : Int)).vl && true))) = false → (decide ((2 : Int) < (↑ws.length : Int)) = true → Bd 4 ((2 : Int)) (↑ws.length : Int) (((!((at3 ws (2 : Int)).pl == (at3 ws (2 : Int)).pl
 && ((at3 ws (2 : Int)).vl == (at3 ws (2 : Int)).vl && true))) = true → T (constA (Value.bool false) = AVal.bool true)) ∧ ((!((at3 ws (2 : Int)).pl == (at3 ws (2 : Int)).pl && ((at3 ws (2 : Int)).vl == (at3 ws (2 :
 Int)).vl && true))) = false → (decide ((3 : Int) < (↑ws.length : Int)) = true → Bd 4 ((3 : Int)) (↑ws.length : Int) (((!((at3 ws (3 : Int)).pl == (at3 ws (3 : Int)).pl && ((at3 ws (3 : Int)).vl == (at3 ws (3 : Int)).vl
 && true))) = true → T (constA (Value.bool false) = AVal.bool true)) ∧ ((!((at3 ws (3 : Int)).pl == (at3 ws (3 : Int)).pl && ((at3 ws (3 : Int)).vl == (at3 ws (3 : Int)).vl && true))) = false → (decide ((4 : Int) <
 (↑ws.length : Int)) = true → Bd 4 ((4 : Int)) (↑ws.length : Int) (((!((at3 ws (4 : Int)).pl == (at3 ws (4 : Int)).pl && ((at3 ws (4 : Int)).vl == (at3 ws (4 : Int)).vl && true))) = true → T (constA (Value.bool false) =
 AVal.bool true)) ∧ ((!((at3 ws (4 : Int)).pl == (at3 ws (4 : Int)).pl && ((at3 ws (4 : Int)).vl == (at3 ws (4 : Int)).vl && true))) = false → (decide ((5 : Int) < (↑ws.length : Int)) = true → Bd 4 ((5 : Int)) (↑ws.length
 : Int) (((!((at3 ws (5 : Int)).pl == (at3 ws (5 : Int)).pl && ((at3 ws (5 : Int)).vl == (at3 ws (5 : Int)).vl && true))) = true → T (constA (Value.bool false) = AVal.bool true)) ∧ ((!((at3 ws (5 : Int)).pl == (at3 ws (5
 : Int)).pl && ((at3 ws (5 : Int)).vl == (at3 ws (5 : Int)).vl && true))) = false → (decide ((6 : Int) < (↑ws.length : Int)) = true → Bd 4 ((6 : Int)) (↑ws.length : Int) (((!((at3 ws (6 : Int)).pl == (at3 ws (6 : Int)).pl
 && ((at3 ws (6 : Int)).vl == (at3 ws (6 : Int)).vl && true))) = true → T (constA (Value.bool false) = AVal.bool true)) ∧ ((!((at3 ws (6 : Int)).pl == (at3 ws (6 : Int)).pl && ((at3 ws (6 : Int)).vl == (at3 ws (6 :
 Int)).vl && true))) = false → (decide ((7 : Int) < (↑ws.length : Int)) = true → Bd 4 ((7 : Int)) (↑ws.length : Int) (((!((at3 ws (7 : Int)).pl == (at3 ws (7 : Int)).pl && ((at3 ws (7 : Int)).vl == (at3 ws (7 : Int)).vl
 && true))) = true → Stuck "fuel") ∧ ((!((at3 ws (7 : Int)).pl == (at3 ws (7 : Int)).pl && ((at3 ws (7 : Int)).vl == (at3 ws (7 : Int)).vl && true))) = false → Stuck "fuel"))) ∧ (decide ((7 : Int) < (↑ws.length : Int)) =
 false → T (constA (Value.bool true) = AVal.bool true))))) ∧ (decide ((6 : Int) < (↑ws.length : Int)) = false → T (constA (Value.bool true) = AVal.bool true))))) ∧ (decide ((5 : Int) < (↑ws.length : Int)) = false → T
 (constA (Value.bool true) = AVal.bool true))))) ∧ (decide ((4 : Int) < (↑ws.length : Int)) = false → T (constA (Value.bool true) = AVal.bool true))))) ∧ (decide ((3 : Int) < (↑ws.length : Int)) = false → T (constA
 (Value.bool true) = AVal.bool true))))) ∧ (decide ((2 : Int) < (↑ws.length : Int)) = false → T (constA (Value.bool true) = AVal.bool true))))) ∧ (decide ((1 : Int) < (↑ws.length : Int)) = false → T (constA (Value.bool
 true) = AVal.bool true))))) ∧ (decide ((0 : Int) < (↑ws.length : Int)) = false → T (constA (Value.bool true) = AVal.bool true))))))))))) fun R => ∃ (p : XM × YM),rs = p.fst.rs ∧ ws = p.fst.ws ∧ rows = p.fst.rows ∧ tk =
 p.fst.tk ∧ W = p.fst.W ∧ rs = p.snd.rs ∧ ws = p.snd.ws ∧ rows = p.snd.rows ∧ old = p.snd.old ∧ W = p.snd.W ∧ R ∧ steps = p.snd.steps ∧ lk = p.snd.lk ∧ la = p.snd.la ∧ lv = p.snd.lv ∧ ls = p.snd.ls ∧ ld = p.snd.ld ∧
 AVal.int i64 (3 : Int) = AVal.int i64 (3 : Int) ∧ AVal.int i64 (1 : Int) = AVal.int i64 (1 : Int) ∧ AVal.int i64 (3 : Int) = AVal.int i64 (3 : Int) ∧ AVal.int i64
 0 = AVal.int i64 (0 : Int) ∧ AVal.int i64 (4 : Int) = AVal.int i64 (4 : Int) ∧ AVal.bool false = AVal.bool false ∧ th = p.snd.th ∧ c = p.snd.c ∧ AVal.int i64 (1000 : Int) =
 AVal.int i64 (1000 : Int) ∧ AVal.int i64 (32 : Int) = AVal.int i64 (32 : Int) ∧ AVal.int i64 (32 : Int) = AVal.int i64 (32 : Int) ∧ asked = p.snd.asked ∧ AVal.nils = AVal.nils ∧
 AVal.bool al = AVal.bool p.snd.al ∧ AVal.bool su = AVal.bool p.snd.su ∧ AVal.bool yph = AVal.bool p.snd.ph ∧ AVal.bool false = AVal.bool false ∧ AVal.int i64 job = AVal.int i64 p.snd.job ∧ AVal.int
 i64 z = AVal.int i64 p.snd.st ∧ (↑k : Int) = (↑p.snd.i : Int) ∧ AVal.int i64 (0 : Int) = AVal.int i64 (0 : Int) ∧ AVal.int i64 (0 : Int) = AVal.int i64 (0 : Int) ∧ at_ =
 p.snd.at_ ∧ val = p.snd.val ∧ seen = p.snd.seen ∧ AVal.int i64 (0 : Int) = AVal.int i64 (0 : Int) ∧ value = p.snd.value ∧ stamp = p.snd.stamp ∧ made = p.snd.made ∧ cause = p.snd.cause ∧ AVal.int
 i64 ybk = AVal.int i64 p.snd.ybk ∧ AVal.int i64 ybst = AVal.int i64 p.snd.ybst ∧ ybse = p.snd.ybse ∧ ybsp = p.snd.ybsp ∧ steps = p.fst.steps ∧ lk = p.fst.lk ∧ la = p.fst.la ∧ lv = p.fst.lv
 ∧ ls = p.fst.ls ∧ ld = p.fst.ld ∧ AVal.int i64 (32 : Int) = AVal.int i64 (32 : Int) ∧ filtT ws = filtT p.fst.ws ∧ asked = p.fst.asked ∧ AVal.int i64 (32 : Int) = AVal.int i64 (32 : Int) ∧
 AVal.int i64 (3 : Int) = AVal.int i64 (3 : Int) ∧ AVal.int i64 (1 : Int) = AVal.int i64 (1 : Int) ∧ AVal.int i64 (3 : Int) = AVal.int i64 (3 : Int) ∧ AVal.int i64
 0 = AVal.int i64 (0 : Int) ∧ AVal.int i64 (4 : Int) = AVal.int i64 (4 : Int) ∧ th = p.fst.th ∧ c = p.fst.c ∧ AVal.int i64 (1000 : Int) = AVal.int i64 (1000 : Int) ∧
 AVal.nils = AVal.nils ∧ AVal.int i64 life = AVal.int i64 p.fst.life ∧ AVal.int i64 job = AVal.int i64 p.fst.job ∧ AVal.int i64 part = AVal.int i64 p.fst.part ∧ (↑i : Int) =
 (↑p.fst.i : Int) ∧ at_ = p.fst.at_ ∧ row = p.fst.row ∧ seen = p.fst.seen ∧ val = p.fst.val ∧ value = p.fst.value ∧ cause = p.fst.cause ∧ stamp = p.fst.stamp ∧ made = p.fst.made ∧ AVal.int i64 bk = AVal.int
 i64 p.fst.bk ∧ AVal.int i64 bst = AVal.int i64 p.fst.bst ∧ bse = p.fst.bse ∧ bsp = p.fst.bsp ∧ AVal.bool ph = AVal.bool p.fst.ph ∧ (o 33) = (o 33) ∧ (o 32) = (o 32) ∧ (o 31) = (o 31) ∧ (o 30) = (o 30) ∧ (o 29) = (o 29) ∧ (o 28) =
 (o 28) ∧ (o 27) = (o 27) ∧ (o 26) = (o 26) ∧ (o 25) = (o 25) ∧ (o 24) = (o 24) ∧ (o 23) = (o 23) ∧ (o 22) = (o 22) ∧ (o 21) = (o 21) ∧ (o 20) = (o 20) ∧ (o 19) = (o 19) ∧ (o 18) = (o 18) ∧ (o 17) = (o 17) ∧ (o 16) = (o 16) ∧ p = (XM.mk code th c life job part i at_ row seen val value cause
 stamp made bk bst bse bsp ph rs ws asked rows tk W steps lk la lv ls ld ybk ybst ybse ybsp,YM.mk code th c al su yph job z k at_ seen val value cause stamp made ybk ybst ybse ybsp rs ws asked rows old W steps lk la lv
 ls ld) ∧ True) := by kernel_rfl
theorem lk_ok (I : XM → Prop) (hrs : rs.length ≤ 3) (hws : ws.length ≤ 4) (al yph : Bool) (old : List Int) : Paid (vcC cK (lkD I) (⟨code,th,c,life,job,part,i,at_,row,seen,val,value,cause,stamp,made,bk,bst,bse,bsp,ph,rs,ws,asked,rows,tk,W,steps,lk,la,lv,ls,ld,ybk,ybst,ybse,ybsp⟩,z,k,⟨code,th,c,al,life == 2,yph,job,z,k,at_,seen,val,value,cause,stamp,made,ybk,ybst,ybse,ybsp,rs,ws,asked,rows,old,W,steps,lk,la,lv,ls,ld⟩) (hpF o 0 34)) := by
 refine ⟨?_⟩
 rw [lk_]
 generalize hTT : (fun R => ∃ (p : XM × YM),_) = TT
 have hT : TT (AVal.bool true = AVal.bool true) := by
  subst hTT
  exact ⟨(⟨code,th,c,life,job,part,i,at_,row,seen,val,value,cause,stamp,made,bk,bst,bse,bsp,ph,rs,ws,asked,rows,tk,W,steps,lk,la,lv,ls,ld,ybk,ybst,ybse,ybsp⟩,⟨code,th,c,al,life == 2,yph,job,z,k,at_,seen,val,value,cause,stamp,made,ybk,ybst,ybse,ybsp,rs,ws,asked,rows,old,W,steps,lk,la,lv,ls,ld⟩),rfl,rfl,rfl,rfl,rfl,rfl,rfl,rfl,rfl,rfl,rfl,rfl,rfl,rfl,rfl,rfl,rfl,rfl,rfl,rfl,rfl,rfl,rfl,rfl,rfl,rfl,rfl,rfl,rfl,rfl,rfl,rfl,rfl,rfl,rfl,rfl,rfl,rfl,rfl,rfl,rfl,rfl,rfl,rfl,rfl,rfl,rfl,rfl,rfl,rfl,rfl,rfl,rfl,rfl,rfl,rfl,rfl,rfl,rfl,rfl,rfl,rfl,rfl,rfl,rfl,rfl,rfl,rfl,rfl,rfl,rfl,rfl,rfl,rfl,rfl,rfl,rfl,rfl,rfl,rfl,rfl,rfl,rfl,rfl,rfl,rfl,rfl,rfl,rfl,rfl,rfl,rfl,rfl,rfl,rfl,rfl,rfl,rfl,rfl,rfl,rfl,rfl,rfl,rfl,rfl,rfl,trivial⟩
 clear hTT
 show _
 refine ⟨?_, ?_⟩
 ·intro h1
  exact absurd h1 (by rw [qx]; decide)
 ·intro h2
  refine ⟨?_, ?_⟩
  ·intro h3
   exact absurd h3 (by rw [qx]; decide)
  ·intro h4
   refine ⟨?_, ?_⟩
   ·intro h5
    exact absurd h5 (by rw [qx]; decide)
   ·intro h6
    refine ⟨?_, ?_⟩
    ·intro h7
     exact absurd h7 (by rw [qx]; decide)
    ·intro h8
     refine ⟨trivial, ?_, ?_⟩
     ·intro h9
      exact absurd h9 (by rw [beq_self_eq_true]; decide)
     ·intro h10
      refine ⟨(show rs.length ≤ 1000 by omega),(by omega), ?_, ?_⟩
      ·intro h11
       rw [qh] at h11
       exact absurd h11 (by rw [qx]; decide)
      ·intro h12
       refine ⟨?_, ?_⟩
       ·intro h13
        exact absurd h13 (by rw [qx]; decide)
       ·intro h14
        refine ⟨?_, ?_⟩
        ·intro h15
         rw [qh] at h15
         have h15g := qb h15
         refine bd (by decide) (by rw [qh]; omega) ?_ 2
         refine bd (by decide) (by omega) ?_ 2
         refine ⟨?_, ?_⟩
         ·intro h16
          rw [show at0 (List.map (fun (x : Wo) => x.pl) rs) 0 = (at3 rs (0 : Int)).pl from at_map (n := 0) (by omega)] at h16
          exact absurd h16 (by rw [qx]; decide)
         ·intro h17
          refine ⟨?_, ?_⟩
          ·intro h18
           rw [qh] at h18
           have h18g := qb h18
           refine bd (by decide) (by rw [qh]; omega) ?_ 2
           refine bd (by decide) (by omega) ?_ 2
           refine ⟨?_, ?_⟩
           ·intro h19
            rw [show at0 (List.map (fun (x : Wo) => x.pl) rs) 1 = (at3 rs (1 : Int)).pl from at_map (n := 1) (by omega)] at h19
            exact absurd h19 (by rw [qx]; decide)
           ·intro h20
            refine ⟨?_, ?_⟩
            ·intro h21
             rw [qh] at h21
             have h21g := qb h21
             refine bd (by decide) (by rw [qh]; omega) ?_ 2
             refine bd (by decide) (by omega) ?_ 2
             refine ⟨?_, ?_⟩
             ·intro h22
              rw [show at0 (List.map (fun (x : Wo) => x.pl) rs) 2 = (at3 rs (2 : Int)).pl from at_map (n := 2) (by omega)] at h22
              exact absurd h22 (by rw [qx]; decide)
             ·intro h23
              refine ⟨?_, ?_⟩
              ·intro h24
               rw [qh] at h24
               have h24g := qb h24
               refine bd (by decide) (by rw [qh]; omega) ?_ 2
               refine bd (by decide) (by omega) ?_ 2
               refine ⟨?_, ?_⟩
               ·intro h25
                rw [show at0 (List.map (fun (x : Wo) => x.pl) rs) 3 = (at3 rs (3 : Int)).pl from at_map (n := 3) (by omega)] at h25
                exact absurd h25 (by rw [qx]; decide)
               ·intro h26
                refine ⟨?_, ?_⟩
                ·intro h27
                 rw [qh] at h27
                 have h27g := qb h27
                 refine bd (by decide) (by rw [qh]; omega) ?_ 2
                 refine bd (by decide) (by omega) ?_ 2
                 refine ⟨?_, ?_⟩
                 ·intro h28
                  rw [show at0 (List.map (fun (x : Wo) => x.pl) rs) 4 = (at3 rs (4 : Int)).pl from at_map (n := 4) (by omega)] at h28
                  exact absurd h28 (by rw [qx]; decide)
                 ·intro h29
                  refine ⟨?_, ?_⟩
                  ·intro h30
                   rw [qh] at h30
                   have h30g := qb h30
                   refine bd (by decide) (by rw [qh]; omega) ?_ 2
                   refine bd (by decide) (by omega) ?_ 2
                   refine ⟨?_, ?_⟩
                   ·intro h31
                    rw [show at0 (List.map (fun (x : Wo) => x.pl) rs) 5 = (at3 rs (5 : Int)).pl from at_map (n := 5) (by omega)] at h31
                    exact absurd h31 (by rw [qx]; decide)
                   ·intro h32
                    refine ⟨?_, ?_⟩
                    ·intro h33
                     rw [qh] at h33
                     have h33g := qb h33
                     refine bd (by decide) (by rw [qh]; omega) ?_ 2
                     refine bd (by decide) (by omega) ?_ 2
                     refine ⟨?_, ?_⟩
                     ·intro h34
                      rw [show at0 (List.map (fun (x : Wo) => x.pl) rs) 6 = (at3 rs (6 : Int)).pl from at_map (n := 6) (by omega)] at h34
                      exact absurd h34 (by rw [qx]; decide)
                     ·intro h35
                      refine ⟨?_, ?_⟩
                      ·intro h36
                       rw [qh] at h36
                       have h36g := qb h36
                       refine bd (by decide) (by rw [qh]; omega) ?_ 2
                       refine bd (by decide) (by omega) ?_ 2
                       refine ⟨?_, ?_⟩
                       ·intro h37
                        rw [show at0 (List.map (fun (x : Wo) => x.pl) rs) 7 = (at3 rs (7 : Int)).pl from at_map (n := 7) (by omega)] at h37
                        exact absurd h37 (by rw [qx]; decide)
                       ·intro h38
                        refine ⟨?_, ?_⟩
                        ·intro h39
                         rw [qh] at h39
                         have h39g := qb h39
                         exfalso; omega
                        ·intro h40
                         rw [qh] at h40
                         have h40g := qc h40
                         exfalso; omega
                      ·intro h41
                       rw [qh] at h41
                       have h41g := qc h41
                       refine ⟨?_, ?_⟩
                       ·intro h42
                        have h42g := qb h42
                        refine bd (by decide) (by omega) ?_ 4
                        refine ⟨?_, ?_⟩
                        ·intro h43
                         exact absurd h43 (by simp)
                        ·intro h44
                         exfalso; omega
                       ·intro h45
                        have h45g := qc h45
                        exact hT
                    ·intro h46
                     rw [qh] at h46
                     have h46g := qc h46
                     refine ⟨?_, ?_⟩
                     ·intro h47
                      have h47g := qb h47
                      refine bd (by decide) (by omega) ?_ 4
                      refine ⟨?_, ?_⟩
                      ·intro h48
                       exact absurd h48 (by simp)
                      ·intro h49
                       refine ⟨?_, ?_⟩
                       ·intro h50
                        have h50g := qb h50
                        refine bd (by decide) (by omega) ?_ 4
                        refine ⟨?_, ?_⟩
                        ·intro h51
                         exact absurd h51 (by simp)
                        ·intro h52
                         exfalso; omega
                       ·intro h53
                        have h53g := qc h53
                        exact hT
                     ·intro h54
                      have h54g := qc h54
                      exact hT
                  ·intro h55
                   rw [qh] at h55
                   have h55g := qc h55
                   refine ⟨?_, ?_⟩
                   ·intro h56
                    have h56g := qb h56
                    refine bd (by decide) (by omega) ?_ 4
                    refine ⟨?_, ?_⟩
                    ·intro h57
                     exact absurd h57 (by simp)
                    ·intro h58
                     refine ⟨?_, ?_⟩
                     ·intro h59
                      have h59g := qb h59
                      refine bd (by decide) (by omega) ?_ 4
                      refine ⟨?_, ?_⟩
                      ·intro h60
                       exact absurd h60 (by simp)
                      ·intro h61
                       refine ⟨?_, ?_⟩
                       ·intro h62
                        have h62g := qb h62
                        refine bd (by decide) (by omega) ?_ 4
                        refine ⟨?_, ?_⟩
                        ·intro h63
                         exact absurd h63 (by simp)
                        ·intro h64
                         exfalso; omega
                       ·intro h65
                        have h65g := qc h65
                        exact hT
                     ·intro h66
                      have h66g := qc h66
                      exact hT
                   ·intro h67
                    have h67g := qc h67
                    exact hT
                ·intro h68
                 rw [qh] at h68
                 have h68g := qc h68
                 refine ⟨?_, ?_⟩
                 ·intro h69
                  have h69g := qb h69
                  refine bd (by decide) (by omega) ?_ 4
                  refine ⟨?_, ?_⟩
                  ·intro h70
                   exact absurd h70 (by simp)
                  ·intro h71
                   refine ⟨?_, ?_⟩
                   ·intro h72
                    have h72g := qb h72
                    refine bd (by decide) (by omega) ?_ 4
                    refine ⟨?_, ?_⟩
                    ·intro h73
                     exact absurd h73 (by simp)
                    ·intro h74
                     refine ⟨?_, ?_⟩
                     ·intro h75
                      have h75g := qb h75
                      refine bd (by decide) (by omega) ?_ 4
                      refine ⟨?_, ?_⟩
                      ·intro h76
                       exact absurd h76 (by simp)
                      ·intro h77
                       refine ⟨?_, ?_⟩
                       ·intro h78
                        have h78g := qb h78
                        refine bd (by decide) (by omega) ?_ 4
                        refine ⟨?_, ?_⟩
                        ·intro h79
                         exact absurd h79 (by simp)
                        ·intro h80
                         exfalso; omega
                       ·intro h81
                        have h81g := qc h81
                        exact hT
                     ·intro h82
                      have h82g := qc h82
                      exact hT
                   ·intro h83
                    have h83g := qc h83
                    exact hT
                 ·intro h84
                  have h84g := qc h84
                  exact hT
              ·intro h85
               rw [qh] at h85
               have h85g := qc h85
               refine ⟨?_, ?_⟩
               ·intro h86
                have h86g := qb h86
                refine bd (by decide) (by omega) ?_ 4
                refine ⟨?_, ?_⟩
                ·intro h87
                 exact absurd h87 (by simp)
                ·intro h88
                 refine ⟨?_, ?_⟩
                 ·intro h89
                  have h89g := qb h89
                  refine bd (by decide) (by omega) ?_ 4
                  refine ⟨?_, ?_⟩
                  ·intro h90
                   exact absurd h90 (by simp)
                  ·intro h91
                   refine ⟨?_, ?_⟩
                   ·intro h92
                    have h92g := qb h92
                    refine bd (by decide) (by omega) ?_ 4
                    refine ⟨?_, ?_⟩
                    ·intro h93
                     exact absurd h93 (by simp)
                    ·intro h94
                     refine ⟨?_, ?_⟩
                     ·intro h95
                      have h95g := qb h95
                      refine bd (by decide) (by omega) ?_ 4
                      refine ⟨?_, ?_⟩
                      ·intro h96
                       exact absurd h96 (by simp)
                      ·intro h97
                       refine ⟨?_, ?_⟩
                       ·intro h98
                        have h98g := qb h98
                        refine bd (by decide) (by omega) ?_ 4
                        refine ⟨?_, ?_⟩
                        ·intro h99
                         exact absurd h99 (by simp)
                        ·intro h100
                         exfalso; omega
                       ·intro h101
                        have h101g := qc h101
                        exact hT
                     ·intro h102
                      have h102g := qc h102
                      exact hT
                   ·intro h103
                    have h103g := qc h103
                    exact hT
                 ·intro h104
                  have h104g := qc h104
                  exact hT
               ·intro h105
                have h105g := qc h105
                exact hT
            ·intro h106
             rw [qh] at h106
             have h106g := qc h106
             refine ⟨?_, ?_⟩
             ·intro h107
              have h107g := qb h107
              refine bd (by decide) (by omega) ?_ 4
              refine ⟨?_, ?_⟩
              ·intro h108
               exact absurd h108 (by simp)
              ·intro h109
               refine ⟨?_, ?_⟩
               ·intro h110
                have h110g := qb h110
                refine bd (by decide) (by omega) ?_ 4
                refine ⟨?_, ?_⟩
                ·intro h111
                 exact absurd h111 (by simp)
                ·intro h112
                 refine ⟨?_, ?_⟩
                 ·intro h113
                  have h113g := qb h113
                  refine bd (by decide) (by omega) ?_ 4
                  refine ⟨?_, ?_⟩
                  ·intro h114
                   exact absurd h114 (by simp)
                  ·intro h115
                   refine ⟨?_, ?_⟩
                   ·intro h116
                    have h116g := qb h116
                    refine bd (by decide) (by omega) ?_ 4
                    refine ⟨?_, ?_⟩
                    ·intro h117
                     exact absurd h117 (by simp)
                    ·intro h118
                     refine ⟨?_, ?_⟩
                     ·intro h119
                      have h119g := qb h119
                      refine bd (by decide) (by omega) ?_ 4
                      refine ⟨?_, ?_⟩
                      ·intro h120
                       exact absurd h120 (by simp)
                      ·intro h121
                       refine ⟨?_, ?_⟩
                       ·intro h122
                        have h122g := qb h122
                        refine bd (by decide) (by omega) ?_ 4
                        refine ⟨?_, ?_⟩
                        ·intro h123
                         exact absurd h123 (by simp)
                        ·intro h124
                         exfalso; omega
                       ·intro h125
                        have h125g := qc h125
                        exact hT
                     ·intro h126
                      have h126g := qc h126
                      exact hT
                   ·intro h127
                    have h127g := qc h127
                    exact hT
                 ·intro h128
                  have h128g := qc h128
                  exact hT
               ·intro h129
                have h129g := qc h129
                exact hT
             ·intro h130
              have h130g := qc h130
              exact hT
          ·intro h131
           rw [qh] at h131
           have h131g := qc h131
           refine ⟨?_, ?_⟩
           ·intro h132
            have h132g := qb h132
            refine bd (by decide) (by omega) ?_ 4
            refine ⟨?_, ?_⟩
            ·intro h133
             exact absurd h133 (by simp)
            ·intro h134
             refine ⟨?_, ?_⟩
             ·intro h135
              have h135g := qb h135
              refine bd (by decide) (by omega) ?_ 4
              refine ⟨?_, ?_⟩
              ·intro h136
               exact absurd h136 (by simp)
              ·intro h137
               refine ⟨?_, ?_⟩
               ·intro h138
                have h138g := qb h138
                refine bd (by decide) (by omega) ?_ 4
                refine ⟨?_, ?_⟩
                ·intro h139
                 exact absurd h139 (by simp)
                ·intro h140
                 refine ⟨?_, ?_⟩
                 ·intro h141
                  have h141g := qb h141
                  refine bd (by decide) (by omega) ?_ 4
                  refine ⟨?_, ?_⟩
                  ·intro h142
                   exact absurd h142 (by simp)
                  ·intro h143
                   refine ⟨?_, ?_⟩
                   ·intro h144
                    have h144g := qb h144
                    refine bd (by decide) (by omega) ?_ 4
                    refine ⟨?_, ?_⟩
                    ·intro h145
                     exact absurd h145 (by simp)
                    ·intro h146
                     refine ⟨?_, ?_⟩
                     ·intro h147
                      have h147g := qb h147
                      refine bd (by decide) (by omega) ?_ 4
                      refine ⟨?_, ?_⟩
                      ·intro h148
                       exact absurd h148 (by simp)
                      ·intro h149
                       refine ⟨?_, ?_⟩
                       ·intro h150
                        have h150g := qb h150
                        refine bd (by decide) (by omega) ?_ 4
                        refine ⟨?_, ?_⟩
                        ·intro h151
                         exact absurd h151 (by simp)
                        ·intro h152
                         exfalso; omega
                       ·intro h153
                        have h153g := qc h153
                        exact hT
                     ·intro h154
                      have h154g := qc h154
                      exact hT
                   ·intro h155
                    have h155g := qc h155
                    exact hT
                 ·intro h156
                  have h156g := qc h156
                  exact hT
               ·intro h157
                have h157g := qc h157
                exact hT
             ·intro h158
              have h158g := qc h158
              exact hT
           ·intro h159
            have h159g := qc h159
            exact hT
        ·intro h160
         rw [qh] at h160
         have h160g := qc h160
         refine ⟨?_, ?_⟩
         ·intro h161
          have h161g := qb h161
          refine bd (by decide) (by omega) ?_ 4
          refine ⟨?_, ?_⟩
          ·intro h162
           exact absurd h162 (by simp)
          ·intro h163
           refine ⟨?_, ?_⟩
           ·intro h164
            have h164g := qb h164
            refine bd (by decide) (by omega) ?_ 4
            refine ⟨?_, ?_⟩
            ·intro h165
             exact absurd h165 (by simp)
            ·intro h166
             refine ⟨?_, ?_⟩
             ·intro h167
              have h167g := qb h167
              refine bd (by decide) (by omega) ?_ 4
              refine ⟨?_, ?_⟩
              ·intro h168
               exact absurd h168 (by simp)
              ·intro h169
               refine ⟨?_, ?_⟩
               ·intro h170
                have h170g := qb h170
                refine bd (by decide) (by omega) ?_ 4
                refine ⟨?_, ?_⟩
                ·intro h171
                 exact absurd h171 (by simp)
                ·intro h172
                 refine ⟨?_, ?_⟩
                 ·intro h173
                  have h173g := qb h173
                  refine bd (by decide) (by omega) ?_ 4
                  refine ⟨?_, ?_⟩
                  ·intro h174
                   exact absurd h174 (by simp)
                  ·intro h175
                   refine ⟨?_, ?_⟩
                   ·intro h176
                    have h176g := qb h176
                    refine bd (by decide) (by omega) ?_ 4
                    refine ⟨?_, ?_⟩
                    ·intro h177
                     exact absurd h177 (by simp)
                    ·intro h178
                     refine ⟨?_, ?_⟩
                     ·intro h179
                      have h179g := qb h179
                      refine bd (by decide) (by omega) ?_ 4
                      refine ⟨?_, ?_⟩
                      ·intro h180
                       exact absurd h180 (by simp)
                      ·intro h181
                       refine ⟨?_, ?_⟩
                       ·intro h182
                        have h182g := qb h182
                        refine bd (by decide) (by omega) ?_ 4
                        refine ⟨?_, ?_⟩
                        ·intro h183
                         exact absurd h183 (by simp)
                        ·intro h184
                         exfalso; omega
                       ·intro h185
                        have h185g := qc h185
                        exact hT
                     ·intro h186
                      have h186g := qc h186
                      exact hT
                   ·intro h187
                    have h187g := qc h187
                    exact hT
                 ·intro h188
                  have h188g := qc h188
                  exact hT
               ·intro h189
                have h189g := qc h189
                exact hT
             ·intro h190
              have h190g := qc h190
              exact hT
           ·intro h191
            have h191g := qc h191
            exact hT
         ·intro h192
          have h192g := qc h192
          exact hT
end Go.Proofs.YtmjjljngaefpaaaGreat

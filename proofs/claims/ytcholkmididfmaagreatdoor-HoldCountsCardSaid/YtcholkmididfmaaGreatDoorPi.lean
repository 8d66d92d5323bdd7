/- Programs that are built: what their parts are. Printed by a program (gen_pi.py). -/
import Derived.Test.YtcholkmididfmaaGreatDoorCd
namespace Go.Proofs.YtcholkmididfmaaGreatDoor
open Go.RowKit Go.Am Go.Sy
set_option linter.unusedVariables false
def pk (x m : Int) : Int := IntKind.i64.wrap ((IntKind.u64.wrap x).tmod m)
def qv (x : Int) : Int := IntKind.i64.wrap ((IntKind.u64.wrap ((IntKind.u64.wrap x).tdiv 13)).tmod 1073741824)
def pieceL (x : Int) : List Instr :=
 if pk x 13 = 0 then [.mk 12 ((pk (qv x) 4)) 0 0 0]
 else  if pk x 13 = 1 then [.mk 1 2 0 0 (IntKind.i64.wrap ((pk (qv x) 9) - 4))]
 else  if pk x 13 = 2 then [.mk 13 ((pk (qv x) 3)) 0 0 0,.mk 8 2 0 0 (IntKind.i64.wrap (IntKind.i64.wrap (3 * (pk (qv x) 3)) + (pk (IntKind.i64.wrap ((qv x).tdiv 3)) 3))),.mk 2 2 2 1 0,.mk 9 2 0 0 (IntKind.i64.wrap (IntKind.i64.wrap (3 * (pk (qv x) 3)) + (pk (IntKind.i64.wrap ((qv x).tdiv 3)) 3))),.mk 14 0 0 0 0]
 else  if pk x 13 = 3 then [.mk 13 ((pk (qv x) 3)) 0 0 0,.mk 8 2 0 0 (IntKind.i64.wrap (IntKind.i64.wrap (3 * (pk (qv x) 3)) + (pk (IntKind.i64.wrap ((qv x).tdiv 3)) 3))),.mk 8 3 0 0 (IntKind.i64.wrap (IntKind.i64.wrap (3 * (pk (qv x) 3)) + (pk (IntKind.i64.wrap ((qv x).tdiv 9)) 3))),.mk 9 3 0 0 (IntKind.i64.wrap (IntKind.i64.wrap (3 * (pk (qv x) 3)) + (pk (IntKind.i64.wrap ((qv x).tdiv 3)) 3))),.mk 9 2 0 0 (IntKind.i64.wrap (IntKind.i64.wrap (3 * (pk (qv x) 3)) + (pk (IntKind.i64.wrap ((qv x).tdiv 9)) 3))),.mk 14 0 0 0 0]
 else  if pk x 13 = 4 then [.mk 13 ((pk (qv x) 2)) 0 0 0,.mk 8 2 0 0 (IntKind.i64.wrap (IntKind.i64.wrap (3 * (pk (qv x) 2)) + (pk (IntKind.i64.wrap ((qv x).tdiv 3)) 3))),.mk 13 (IntKind.i64.wrap (IntKind.i64.wrap ((pk (qv x) 2) + 1) + IntKind.i64.wrap ((IntKind.u64.wrap (IntKind.i64.wrap ((qv x).tdiv 2))).tmod (IntKind.u64.wrap (IntKind.i64.wrap (2 - (pk (qv x) 2))))))) 0 0 0,.mk 8 3 0 0 (IntKind.i64.wrap (IntKind.i64.wrap (3 * IntKind.i64.wrap (IntKind.i64.wrap ((pk (qv x) 2) + 1) + IntKind.i64.wrap ((IntKind.u64.wrap (IntKind.i64.wrap ((qv x).tdiv 2))).tmod (IntKind.u64.wrap (IntKind.i64.wrap (2 - (pk (qv x) 2))))))) + (pk (IntKind.i64.wrap ((qv x).tdiv 9)) 3))),.mk 2 2 2 1 0,.mk 9 2 0 0 (IntKind.i64.wrap (IntKind.i64.wrap (3 * IntKind.i64.wrap (IntKind.i64.wrap ((pk (qv x) 2) + 1) + IntKind.i64.wrap ((IntKind.u64.wrap (IntKind.i64.wrap ((qv x).tdiv 2))).tmod (IntKind.u64.wrap (IntKind.i64.wrap (2 - (pk (qv x) 2))))))) + (pk (IntKind.i64.wrap ((qv x).tdiv 9)) 3))),.mk 14 0 0 0 0,.mk 2 3 3 1 0,.mk 9 3 0 0 (IntKind.i64.wrap (IntKind.i64.wrap (3 * (pk (qv x) 2)) + (pk (IntKind.i64.wrap ((qv x).tdiv 27)) 3))),.mk 14 0 0 0 0]
 else  if pk x 13 = 5 then [.mk 13 2 1 0 0,.mk 8 2 0 0 (IntKind.i64.wrap (6 + (pk (qv x) 3))),.mk 8 3 0 0 (IntKind.i64.wrap (6 + (pk (IntKind.i64.wrap ((qv x).tdiv 3)) 3))),.mk 14 0 0 0 0,.mk 12 2 0 0 0,.mk 12 3 0 0 0]
 else  if pk x 13 = 6 then [.mk 13 ((pk (qv x) 3)) 0 0 0,.mk 10 0 0 0 (IntKind.i64.wrap (IntKind.i64.wrap (3 * (pk (qv x) 3)) + (pk (IntKind.i64.wrap ((qv x).tdiv 3)) 3))),.mk 14 0 0 0 0,.mk 8 2 0 0 (IntKind.i64.wrap (IntKind.i64.wrap (3 * (pk (qv x) 3)) + (pk (IntKind.i64.wrap ((qv x).tdiv 3)) 3))),.mk 2 2 2 1 0,.mk 9 2 0 0 (IntKind.i64.wrap (IntKind.i64.wrap (3 * (pk (qv x) 3)) + (pk (IntKind.i64.wrap ((qv x).tdiv 3)) 3))),.mk 13 ((pk (qv x) 3)) 0 0 0,.mk 11 0 0 0 (IntKind.i64.wrap (IntKind.i64.wrap (3 * (pk (qv x) 3)) + (pk (IntKind.i64.wrap ((qv x).tdiv 3)) 3))),.mk 14 0 0 0 0]
 else  if pk x 13 = 7 then [.mk 13 ((pk (qv x) 3)) 0 0 0,.mk 8 2 0 0 (IntKind.i64.wrap (IntKind.i64.wrap (3 * (pk (qv x) 3)) + (pk (IntKind.i64.wrap ((qv x).tdiv 3)) 3))),.mk 18 2 0 0 0,.mk 19 0 0 0 0,.mk 15 ((pk (qv x) 3)) 0 0 0,.mk 20 0 0 0 0,.mk 8 3 0 0 (IntKind.i64.wrap (IntKind.i64.wrap (3 * (pk (qv x) 3)) + (pk (IntKind.i64.wrap ((qv x).tdiv 3)) 3))),.mk 14 0 0 0 0]
 else  if pk x 13 = 8 then [.mk 13 ((pk (qv x) 3)) 0 0 0,.mk 8 2 0 0 (IntKind.i64.wrap (IntKind.i64.wrap (3 * (pk (qv x) 3)) + (pk (IntKind.i64.wrap ((qv x).tdiv 3)) 3))),.mk 2 2 2 1 0,.mk 9 2 0 0 (IntKind.i64.wrap (IntKind.i64.wrap (3 * (pk (qv x) 3)) + (pk (IntKind.i64.wrap ((qv x).tdiv 3)) 3))),.mk 16 ((pk (qv x) 3)) 0 0 0,.mk 14 0 0 0 0]
 else  if pk x 13 = 9 then [.mk 13 ((pk (qv x) 3)) 0 0 0,.mk 8 2 0 0 (IntKind.i64.wrap (IntKind.i64.wrap (3 * (pk (qv x) 3)) + (pk (IntKind.i64.wrap ((qv x).tdiv 3)) 3))),.mk 2 2 2 1 0,.mk 9 2 0 0 (IntKind.i64.wrap (IntKind.i64.wrap (3 * (pk (qv x) 3)) + (pk (IntKind.i64.wrap ((qv x).tdiv 3)) 3))),.mk 17 ((pk (qv x) 3)) 0 0 0,.mk 14 0 0 0 0]
 else  if pk x 13 = 10 then [.mk 13 ((pk (qv x) 3)) 0 0 0,.mk 8 2 0 0 (IntKind.i64.wrap (IntKind.i64.wrap (3 * (pk (qv x) 3)) + (pk (IntKind.i64.wrap ((qv x).tdiv 3)) 3))),.mk 8 3 2 0 (IntKind.i64.wrap (IntKind.i64.wrap (IntKind.i64.wrap (3 * (pk (qv x) 3)) + (pk (IntKind.i64.wrap ((qv x).tdiv 9)) 3)) - 2)),.mk 14 0 0 0 0,.mk 12 3 0 0 0]
 else  if pk x 13 = 11 then [.mk 1 3 0 0 (IntKind.i64.wrap (1 + (pk (IntKind.i64.wrap ((qv x).tdiv 9)) 3))),.mk 21 3 0 0 0,.mk 13 ((pk (qv x) 3)) 0 0 0,.mk 8 2 0 0 (IntKind.i64.wrap (IntKind.i64.wrap (3 * (pk (qv x) 3)) + (pk (IntKind.i64.wrap ((qv x).tdiv 3)) 3))),.mk 2 2 2 1 0,.mk 9 2 0 0 (IntKind.i64.wrap (IntKind.i64.wrap (3 * (pk (qv x) 3)) + (pk (IntKind.i64.wrap ((qv x).tdiv 3)) 3))),.mk 14 0 0 0 0,.mk 3 3 3 1 0,.mk 22 0 0 0 0]
 else
  [.mk 13 ((pk (qv x) 3)) 0 0 0,.mk 1 3 0 0 (IntKind.i64.wrap (1 + (pk (IntKind.i64.wrap ((qv x).tdiv 9)) 3))),.mk 21 3 0 0 0,.mk 8 2 0 0 (IntKind.i64.wrap (IntKind.i64.wrap (3 * (pk (qv x) 3)) + (pk (IntKind.i64.wrap ((qv x).tdiv 3)) 3))),.mk 2 2 2 1 0,.mk 9 2 0 0 (IntKind.i64.wrap (IntKind.i64.wrap (3 * (pk (qv x) 3)) + (pk (IntKind.i64.wrap ((qv x).tdiv 3)) 3))),.mk 3 3 3 1 0,.mk 22 0 0 0 0,.mk 14 0 0 0 0]
noncomputable def bFew : Code := Tryz.f9.body.getD .skip
noncomputable def b4 : Code := Tryz.f11.body.getD .skip
noncomputable def h1 : List (FuncId × Ctr cod) := [(68,mkCtrL [.int .i64] (fun _ => True) 2 (fun (x : Int × Unit) => pieceL x.1))]
def fewGo (rows : List (List Int)) (n : Int) : Nat → Nat → Bool
 | 0,_ => decide ((rows.length : Int) ≤ 4)
 | r + 1,i => if (i : Int) < rows.length then (if ((at5 rows i).length : Int) > n then false else fewGo rows n r (i + 1)) else decide ((rows.length : Int) ≤ 4)
def fewB (rows : List (List Int)) (n : Int) : Bool := fewGo rows n 5 0
def fwD : CtrD cod where
 pats := [.tl 5,.int .i64]
 pre := fun x => True
 res := fun (x : List (List Int) × Int × Unit) => .b (fewB x.1 x.2.1)
 objs := fun x => []
end Go.Proofs.YtcholkmididfmaaGreatDoor
/- The parts of what is built, and programs: their contracts are paid. Printed by a program (gen_pj.py). -/
namespace Go.Proofs.YtcholkmididfmaaGreatDoor
open Go.RowKit Go.Am Go.Sy
set_option linter.unusedVariables false
set_option linter.unusedSimpArgs false
theorem fw_e (rows : List (List Int)) (n : Int) : Go.Sy.Tree.holds (entryX F (lookC []) 400 Tryz.f9 bFew ⟨[],.b (fewB rows n),[]⟩ [.tl (T := T) 5 rows,.i .i64 n]) = ( (decide ((0 : Int) < (↑rows.length : Int)) = true →
 ((0 : Int) ≤ 0 ∧ (0 : Int) < (↑rows.length : Int)) ∧ (decide ((↑(at5 rows (0 : Int)).length : Int) > n) = true → false = fewB rows n ∧ True) ∧ (decide ((↑(at5 rows (0 : Int)).length : Int) > n) = false → (decide ((1 :
 Int) < (↑rows.length : Int)) = true → ((0 : Int) ≤ 1 ∧ (1 : Int) < (↑rows.length : Int)) ∧ (decide ((↑(at5 rows (1 : Int)).length : Int) > n) = true → false = fewB rows n ∧ True) ∧ (decide ((↑(at5 rows (1 : Int)).length
 : Int) > n) = false → (decide ((2 : Int) < (↑rows.length : Int)) = true → ((0 : Int) ≤ 2 ∧ (2 : Int) < (↑rows.length : Int)) ∧ (decide ((↑(at5 rows (2 : Int)).length : Int) > n) = true → false = fewB rows n ∧ True) ∧
 (decide ((↑(at5 rows (2 : Int)).length : Int) > n) = false → (decide ((3 : Int) < (↑rows.length : Int)) = true → ((0 : Int) ≤ 3 ∧ (3 : Int) < (↑rows.length : Int)) ∧ (decide ((↑(at5 rows (3 : Int)).length : Int) > n) =
 true → false = fewB rows n ∧ True) ∧ (decide ((↑(at5 rows (3 : Int)).length : Int) > n) = false → (decide ((4 : Int) < (↑rows.length : Int)) = true → ((0 : Int) ≤ 4 ∧ (4 : Int) < (↑rows.length : Int)) ∧ (decide ((↑(at5
 rows (4 : Int)).length : Int) > n) = true → false = fewB rows n ∧ True) ∧ (decide ((↑(at5 rows (4 : Int)).length : Int) > n) = false → (decide ((5 : Int) < (↑rows.length : Int)) = true → decide ((↑rows.length : Int) ≤ 4)
 = fewB rows n ∧ True) ∧ (decide ((5 : Int) < (↑rows.length : Int)) = false → decide ((↑rows.length : Int) ≤ 4) = fewB rows n ∧ True))) ∧ (decide ((4 : Int) < (↑rows.length : Int)) = false → decide ((↑rows.length : Int) ≤
 4) = fewB rows n ∧ True))) ∧ (decide ((3 : Int) < (↑rows.length : Int)) = false → decide ((↑rows.length : Int) ≤ 4) = fewB rows n ∧ True))) ∧ (decide ((2 : Int) < (↑rows.length : Int)) = false → decide ((↑rows.length :
 Int) ≤ 4) = fewB rows n ∧ True))) ∧ (decide ((1 : Int) < (↑rows.length : Int)) = false → decide ((↑rows.length : Int) ≤ 4) = fewB rows n ∧ True))) ∧ (decide ((0 : Int) < (↑rows.length : Int)) = false → decide
 ((↑rows.length : Int) ≤ 4) = fewB rows n ∧ True)) := by kernel_rfl
theorem u64_is (n : Int) : 0 ≤ IntKind.u64.wrap n ∧ IntKind.u64.wrap n < 18446744073709551616 := by
 have e : IntKind.u64.wrap n = n % 18446744073709551616 := rfl
 rw [e]
 omega
theorem pk_is (n m : Int) (hm : 0 < m) (hb : m ≤ 1000000) : 0 ≤ pk n m ∧ pk n m < m := by
 have hn := u64_is n
 have e : (IntKind.u64.wrap n).tmod m = IntKind.u64.wrap n % m := Int.tmod_eq_emod_of_nonneg hn.1
 have h1 := Int.emod_nonneg (IntKind.u64.wrap n) (show m ≠ 0 by omega)
 have h2 := Int.emod_lt_of_pos (IntKind.u64.wrap n) hm
 unfold pk
 rw [e,wrap64 (by omega) (by omega)]
 exact ⟨h1,h2⟩
theorem few_step {rows : List (List Int)} {n : Int} {r i : Nat} (h : (i : Int) < rows.length) : fewGo rows n (r + 1) i = (if ((at5 rows i).length : Int) > n then false else fewGo rows n r (i + 1)) := if_pos h
theorem few_stop {rows : List (List Int)} {n : Int} {r i : Nat} (h : ¬ (i : Int) < rows.length) : fewGo rows n (r + 1) i = decide ((rows.length : Int) ≤ 4) := if_neg h
theorem fw_e_ok (rows : List (List Int)) (n : Int) : Paid (entryX F (lookC []) 400 Tryz.f9 bFew ⟨[],.b (fewB rows n),[]⟩ [.tl (T := T) 5 rows,.i .i64 n]) := by
 refine ⟨?_⟩
 rw [fw_e]
 have q0 : fewGo rows n 5 0 = fewB rows n := rfl
 refine ⟨fun h => ?_,fun h => ⟨?_,trivial⟩⟩
 rotate_left
 ·rw [few_stop (i := 0) (qc h)] at q0
  exact q0
 have c0 : ((0 : Nat) : Int) < rows.length := qb h
 rw [few_step (i := 0) c0] at q0
 refine ⟨⟨by decide,c0⟩,fun g => ⟨?_,trivial⟩,fun g => ?_⟩
 ·exact (if_pos (qb g)).symm.trans q0
 have q1 := (if_neg (qc g)).symm.trans q0
 clear h g
 refine ⟨fun h => ?_,fun h => ⟨?_,trivial⟩⟩
 rotate_left
 ·rw [few_stop (i := 1) (qc h)] at q1
  exact q1
 have c1 : ((1 : Nat) : Int) < rows.length := qb h
 rw [few_step (i := 1) c1] at q1
 refine ⟨⟨by decide,c1⟩,fun g => ⟨?_,trivial⟩,fun g => ?_⟩
 ·exact (if_pos (qb g)).symm.trans q1
 have q2 := (if_neg (qc g)).symm.trans q1
 clear h g
 refine ⟨fun h => ?_,fun h => ⟨?_,trivial⟩⟩
 rotate_left
 ·rw [few_stop (i := 2) (qc h)] at q2
  exact q2
 have c2 : ((2 : Nat) : Int) < rows.length := qb h
 rw [few_step (i := 2) c2] at q2
 refine ⟨⟨by decide,c2⟩,fun g => ⟨?_,trivial⟩,fun g => ?_⟩
 ·exact (if_pos (qb g)).symm.trans q2
 have q3 := (if_neg (qc g)).symm.trans q2
 clear h g
 refine ⟨fun h => ?_,fun h => ⟨?_,trivial⟩⟩
 rotate_left
 ·rw [few_stop (i := 3) (qc h)] at q3
  exact q3
 have c3 : ((3 : Nat) : Int) < rows.length := qb h
 rw [few_step (i := 3) c3] at q3
 refine ⟨⟨by decide,c3⟩,fun g => ⟨?_,trivial⟩,fun g => ?_⟩
 ·exact (if_pos (qb g)).symm.trans q3
 have q4 := (if_neg (qc g)).symm.trans q3
 clear h g
 refine ⟨fun h => ?_,fun h => ⟨?_,trivial⟩⟩
 rotate_left
 ·rw [few_stop (i := 4) (qc h)] at q4
  exact q4
 have c4 : ((4 : Nat) : Int) < rows.length := qb h
 rw [few_step (i := 4) c4] at q4
 refine ⟨⟨by decide,c4⟩,fun g => ⟨?_,trivial⟩,fun g => ?_⟩
 ·exact (if_pos (qb g)).symm.trans q4
 have q5 := (if_neg (qc g)).symm.trans q4
 clear h g
 exact ⟨fun _ => ⟨q5,trivial⟩,fun _ => ⟨q5,trivial⟩⟩
theorem fewOk : CtrOk1 F.S 9 (mkCtr fwD) :=
 mkCtr_paid (fn := Tryz.f9) (body := bFew) (ctr := lookC []) codOk noExt hookLow noneOk Tryz.func9 rfl rfl rfl fwD 400 (fun _ => []) (show 2 ≤ Tryz.f9.ntmps by decide) (show Tryz.f9.ntmps ≤ 512 by decide) (by kernel_rfl) (fun _ _ => ⟨rfl,rfl⟩)
  (fun (x : List (List Int) × Int × Unit) hp => fw_e_ok x.1 x.2.1) (fun x hp p hm => by cases hm)
end Go.Proofs.YtcholkmididfmaaGreatDoor

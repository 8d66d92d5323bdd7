/- Sets of words, rows of stripes, what a plan writes: the contracts are paid. -/
import Derived.Test.YtmjjljngaefpaaaPs
namespace Go.Proofs.Ytmjjljngaefpaaa
open Go.RowKit Go.Am Go.Sy
open Go.IntKind (i64 u64)
set_option linter.unusedVariables false
set_option linter.unusedSimpArgs false
theorem room_e (s : Rs) (k : Int) : Go.Sy.Tree.holds (entryX F (lookC l57) 400 Try.f57 b57 ⟨[],.a (.bool true),[]⟩ [.fp (enc5 s),.i .i64 k]) = ( (decide ((↑s.ls.length : Int) < s.rm) = true → constA (Value.bool true)
 = AVal.bool true ∧ True) ∧ (decide ((↑s.ls.length : Int) < s.rm) = false → hasD.pre (Rs.mk s.rm s.ls,k,()) ∧ AVal.bool (hasB (Rs.mk s.rm s.ls).ls k) = AVal.bool true ∧ True)) := by kernel_rfl
theorem has_e (s : Rs) (k : Int) : Go.Sy.Tree.holds (entryX F (lookC []) 400 Try.f87 b87 (hasF s.ls k) [.fp (enc5 s),.i .i64 k]) = ( ∃ (s_1 : Nat),k = k ∧ s.ls = s.ls ∧ (↑s.ls.length : Int) = (↑s.ls.length : Int) ∧ (0
 : Int) = (↑s_1 : Int) ∧ (s_1 ≤ s.ls.length ∧ hasB (List.take s_1 s.ls) k = false) ∧ True) := by kernel_rfl
theorem has_4 (l : List Wo) (k : Int) (i : Nat) : Go.Sy.Tree.holds (cutVC F (lookC []) 400 Try.f87 b87 (hasF l k) 4 (hasC l k) i) = ( (decide ((↑i : Int) < (↑l.length : Int)) = true → ((0 : Int) ≤ (↑i : Int) ∧ (↑i : Int)
 < (↑l.length : Int)) ∧ (((at3 l (↑i : Int)).pl == k) = true → true = hasB l k ∧ True) ∧ (((at3 l (↑i : Int)).pl == k) = false → ∃ (s : Nat),k = k ∧ l = l ∧ (↑l.length : Int) = (↑l.length : Int) ∧ i64.wrap ((↑i :
 Int) + 1) = (↑s : Int) ∧ (s ≤ l.length ∧ hasB (List.take s l) k = false) ∧ l.length - s < l.length - i ∧ True)) ∧ (decide ((↑i : Int) < (↑l.length : Int)) = false → false = hasB l k ∧ True)) := by kernel_rfl
theorem at_e (s : Rs) (k : Int) : Go.Sy.Tree.holds (entryX F (lookC []) 400 Try.f73 b73 ⟨[],.agg (enc3 (at3 s.ls k)),[]⟩ [.fp (enc5 s),.i .i64 k]) = ( (decide (k < 0) = true → (0 : Int) = (at3 s.ls k).pl ∧ (0 : Int) =
 (at3 s.ls k).vl ∧ True) ∧ (decide (k < 0) = false → (decide (k ≥ (↑s.ls.length : Int)) = true → (0 : Int) = (at3 s.ls k).pl ∧ (0 : Int) = (at3 s.ls k).vl ∧ True) ∧ (decide (k ≥ (↑s.ls.length : Int)) = false → ((0 : Int)
 ≤ k ∧ k < (↑s.ls.length : Int)) ∧ (at3 s.ls k).pl = (at3 s.ls k).pl ∧ (at3 s.ls k).vl = (at3 s.ls k).vl ∧ True))) := by kernel_rfl
theorem bad_e (s : Mw) (k : Int) : Go.Sy.Tree.holds (entryX F (lookC []) 400 Try.f50 b50 ⟨[],.a (.int .i64 0),[]⟩ [.fp (enc8 s),.i .i64 k]) = ( (decide (k < 0) = true → constA (Value.int i64 (2 : Int)) =
 AVal.int i64 (0 : Int) ∧ True) ∧ (decide (k < 0) = false → (decide (k ≥ (↑s.ws.length : Int)) = true → constA (Value.int i64 (2 : Int)) = AVal.int i64 (0 : Int) ∧ True) ∧ (decide (k ≥
 (↑s.ws.length : Int)) = false → constA (Value.int i64 (0 : Int)) = AVal.int i64 (0 : Int) ∧ True))) := by kernel_rfl
theorem bit_e0 : Go.Sy.Tree.holds (entryX F (lookC []) 400 Try.f85 b85 ⟨[],.i .u64 (bitT 26),[]⟩ [.i .i64 26]) = ( (0 : Int) ≤ 26 ∧ (67108864 : Int) = bitT (26 : Int) ∧ True) := by kernel_rfl
theorem bit_e1 : Go.Sy.Tree.holds (entryX F (lookC []) 400 Try.f85 b85 ⟨[],.i .u64 (bitT 28),[]⟩ [.i .i64 28]) = ( (0 : Int) ≤ 28 ∧ (268435456 : Int) = bitT (28 : Int) ∧ True) := by kernel_rfl
theorem bit_e2 : Go.Sy.Tree.holds (entryX F (lookC []) 400 Try.f85 b85 ⟨[],.i .u64 (bitT 30),[]⟩ [.i .i64 30]) = ( (0 : Int) ≤ 30 ∧ (1073741824 : Int) = bitT (30 : Int) ∧ True) := by kernel_rfl
theorem bit_e3 : Go.Sy.Tree.holds (entryX F (lookC []) 400 Try.f85 b85 ⟨[],.i .u64 (bitT 32),[]⟩ [.i .i64 32]) = ( (0 : Int) ≤ 32 ∧ (4294967296 : Int) = bitT (32 : Int) ∧ True) := by kernel_rfl
theorem find_e (w : Wr) (k : Int) : Go.Sy.Tree.holds (entryX F (lookC l86) 400 Try.f86 b86 (findF w k) [.fp (enc6 w),.i .i64 k]) = ( bitD.pre (k,()) ∧ ((u64.wrap (↑(BitVec.ofInt u64.bits w.fi &&&
 BitVec.ofInt u64.bits (bitT k)).toNat : Int) == 0) = true → (-1 : Int) = findT w.ls k ∧ True) ∧ ((u64.wrap (↑(BitVec.ofInt u64.bits w.fi &&& BitVec.ofInt u64.bits (bitT k)).toNat : Int) ==
 0) = false → ∃ (s : Nat),w.rm = w.rm ∧ w.ls = w.ls ∧ w.fi = w.fi ∧ k = k ∧ (↑w.ls.length : Int) = (↑w.ls.length : Int) ∧ (0 : Int) = (↑s : Int) ∧ (s ≤ w.ls.length ∧ findT w.ls k = findGo k (List.drop s w.ls) (↑s : Int))
 ∧ True)) := by kernel_rfl
theorem find_4 (w : Wr) (k : Int) (i : Nat) : Go.Sy.Tree.holds (cutVC F (lookC l86) 400 Try.f86 b86 (findF w k) 4 (findC w k) i) = ( (decide ((↑i : Int) < (↑w.ls.length : Int)) = true → ((0 : Int) ≤ (↑i : Int) ∧ (↑i :
 Int) < (↑w.ls.length : Int)) ∧ (((at3 w.ls (↑i : Int)).pl == k) = true → (↑i : Int) = findT w.ls k ∧ True) ∧ (((at3 w.ls (↑i : Int)).pl == k) = false → ∃ (s : Nat),w.rm = w.rm ∧ w.ls = w.ls ∧ w.fi = w.fi ∧ k = k ∧
 (↑w.ls.length : Int) = (↑w.ls.length : Int) ∧ i64.wrap ((↑i : Int) + 1) = (↑s : Int) ∧ (s ≤ w.ls.length ∧ findT w.ls k = findGo k (List.drop s w.ls) (↑s : Int)) ∧ w.ls.length - s < w.ls.length - i ∧ True)) ∧
 (decide ((↑i : Int) < (↑w.ls.length : Int)) = false → (-1 : Int) = findT w.ls k ∧ True)) := by kernel_rfl
theorem places_e (l : List Wo) : Go.Sy.Tree.holds (entryX F (lookC []) 400 Try.f77 b77 (placesF l) [.tl (T := T) 3 l]) = ( ∃ (s : Nat),[] = List.map (fun (x : Wo) => x.pl) (List.take s l) ∧ l = l ∧ (↑l.length : Int) =
 (↑l.length : Int) ∧ (0 : Int) = (↑s : Int) ∧ s ≤ l.length ∧ True) := by kernel_rfl
theorem places_3 (l : List Wo) (i : Nat) : Go.Sy.Tree.holds (cutVC F (lookC []) 400 Try.f77 b77 (placesF l) 3 (placesC l) i) = ( (decide ((↑i : Int) < (↑l.length : Int)) = true → ((0 : Int) ≤ (↑i : Int) ∧ (↑i : Int) <
 (↑l.length : Int)) ∧ ((List.map (fun (x : Wo) => x.pl) (List.take i l)).length + [(at3 l (↑i : Int)).pl].length) * 8 ≤ 140737488355328 ∧ ∃ (s : Nat),List.map (fun (x : Wo) => x.pl) (List.take i l) ++ [(at3 l (↑i :
 Int)).pl] = List.map (fun (x : Wo) => x.pl) (List.take s l) ∧ l = l ∧ (↑l.length : Int) = (↑l.length : Int) ∧ i64.wrap ((↑i : Int) + 1) = (↑s : Int) ∧ s ≤ l.length ∧ l.length - s < l.length - i ∧ True) ∧ (decide
 ((↑i : Int) < (↑l.length : Int)) = false → List.map (fun (x : Wo) => x.pl) (List.take i l) = List.map (fun (x : Wo) => x.pl) l ∧ True)) := by kernel_rfl
theorem rows_e (l : List Int) : Go.Sy.Tree.holds (entryX F (lookC l76) 900 Try.f76 b76 (rowsF l) [.agg (enc4 mp0),.tl (T := T) 0 l]) = ( ∃ (s : Nat),mp0.ms = mp0.ms ∧ mp0.ml = mp0.ml ∧ mp0.mt = mp0.mt ∧ mp0.mc = mp0.mc
 ∧ mp0.md = mp0.md ∧ false = inR (0 : Int) (List.take s l) ∧ false = inR (1 : Int) (List.take s l) ∧ false = inR (2 : Int) (List.take s l) ∧ AVal.bool false = AVal.bool false ∧ AVal.bool false = AVal.bool false ∧
 AVal.bool false = AVal.bool false ∧ AVal.bool false = AVal.bool false ∧ AVal.bool false = AVal.bool false ∧ AVal.bool false = AVal.bool false ∧ AVal.bool false = AVal.bool false ∧ AVal.bool false = AVal.bool false ∧
 AVal.bool false = AVal.bool false ∧ AVal.bool false = AVal.bool false ∧ AVal.bool false = AVal.bool false ∧ AVal.bool false = AVal.bool false ∧ AVal.bool false = AVal.bool false ∧ l = l ∧ (↑l.length : Int) = (↑l.length :
 Int) ∧ (0 : Int) = (↑s : Int) ∧ s ≤ l.length ∧ True) := by kernel_rfl
theorem rows_3 (l : List Int) (i : Nat) : Go.Sy.Tree.holds (cutVC F (lookC l76) 900 Try.f76 b76 (rowsF l) 3 (rowsC l) i) = ( (decide ((↑i : Int) < (↑l.length : Int)) = true → ((0 : Int) ≤ (↑i : Int) ∧ (↑i : Int) <
 (↑l.length : Int)) ∧ (Mp.mk mp0.ms mp0.ml mp0.mt mp0.mc mp0.md = mp0 ∧ isData (at0 l (↑i : Int))) ∧ ((hashT (at0 l (↑i : Int)) == 0) = true → (inR (0 : Int) (List.take i l) = true → ∃ (s : Nat),mp0.ms = mp0.ms ∧ mp0.ml
 = mp0.ml ∧ mp0.mt = mp0.mt ∧ mp0.mc = mp0.mc ∧ mp0.md = mp0.md ∧ true = inR (0 : Int) (List.take s l) ∧ inR (1 : Int) (List.take i l) = inR (1 : Int) (List.take s l) ∧ inR (2 : Int) (List.take i l) = inR (2 : Int)
 (List.take s l) ∧ AVal.bool false = AVal.bool false ∧ AVal.bool false = AVal.bool false ∧ AVal.bool false = AVal.bool false ∧ AVal.bool false = AVal.bool false ∧ AVal.bool false = AVal.bool false ∧ AVal.bool false =
 AVal.bool false ∧ AVal.bool false = AVal.bool false ∧ AVal.bool false = AVal.bool false ∧ AVal.bool false = AVal.bool false ∧ AVal.bool false = AVal.bool false ∧ AVal.bool false = AVal.bool false ∧ AVal.bool false =
 AVal.bool false ∧ AVal.bool false = AVal.bool false ∧ l = l ∧ (↑l.length : Int) = (↑l.length : Int) ∧ i64.wrap ((↑i : Int) + 1) = (↑s : Int) ∧ s ≤ l.length ∧ l.length - s < l.length - i ∧ True) ∧ (inR (0 : Int)
 (List.take i l) = false → ∃ (s : Nat),mp0.ms = mp0.ms ∧ mp0.ml = mp0.ml ∧ mp0.mt = mp0.mt ∧ mp0.mc = mp0.mc ∧ mp0.md = mp0.md ∧ true = inR (0 : Int) (List.take s l) ∧ inR (1 : Int) (List.take i l) = inR (1 : Int)
 (List.take s l) ∧ inR (2 : Int) (List.take i l) = inR (2 : Int) (List.take s l) ∧ AVal.bool false = AVal.bool false ∧ AVal.bool false = AVal.bool false ∧ AVal.bool false = AVal.bool false ∧ AVal.bool false = AVal.bool
 false ∧ AVal.bool false = AVal.bool false ∧ AVal.bool false = AVal.bool false ∧ AVal.bool false = AVal.bool false ∧ AVal.bool false = AVal.bool false ∧ AVal.bool false = AVal.bool false ∧ AVal.bool false = AVal.bool
 false ∧ AVal.bool false = AVal.bool false ∧ AVal.bool false = AVal.bool false ∧ AVal.bool false = AVal.bool false ∧ l = l ∧ (↑l.length : Int) = (↑l.length : Int) ∧ i64.wrap ((↑i : Int) + 1) = (↑s : Int) ∧ s ≤
 l.length ∧ l.length - s < l.length - i ∧ True)) ∧ ((hashT (at0 l (↑i : Int)) == 0) = false → ((hashT (at0 l (↑i : Int)) == 2) = true → (inR (2 : Int) (List.take i l) = true → ∃ (s : Nat),mp0.ms = mp0.ms ∧ mp0.ml =
 mp0.ml ∧ mp0.mt = mp0.mt ∧ mp0.mc = mp0.mc ∧ mp0.md = mp0.md ∧ inR (0 : Int) (List.take i l) = inR (0 : Int) (List.take s l) ∧ inR (1 : Int) (List.take i l) = inR (1 : Int) (List.take s l) ∧ true = inR (2 : Int)
 (List.take s l) ∧ AVal.bool false = AVal.bool false ∧ AVal.bool false = AVal.bool false ∧ AVal.bool false = AVal.bool false ∧ AVal.bool false = AVal.bool false ∧ AVal.bool false = AVal.bool false ∧ AVal.bool false =
 AVal.bool false ∧ AVal.bool false = AVal.bool false ∧ AVal.bool false = AVal.bool false ∧ AVal.bool false = AVal.bool false ∧ AVal.bool false = AVal.bool false ∧ AVal.bool false = AVal.bool false ∧ AVal.bool false =
 AVal.bool false ∧ AVal.bool false = AVal.bool false ∧ l = l ∧ (↑l.length : Int) = (↑l.length : Int) ∧ i64.wrap ((↑i : Int) + 1) = (↑s : Int) ∧ s ≤ l.length ∧ l.length - s < l.length - i ∧ True) ∧ (inR (2 : Int)
 (List.take i l) = false → ∃ (s : Nat),mp0.ms = mp0.ms ∧ mp0.ml = mp0.ml ∧ mp0.mt = mp0.mt ∧ mp0.mc = mp0.mc ∧ mp0.md = mp0.md ∧ inR (0 : Int) (List.take i l) = inR (0 : Int) (List.take s l) ∧ inR (1 : Int) (List.take i
 l) = inR (1 : Int) (List.take s l) ∧ true = inR (2 : Int) (List.take s l) ∧ AVal.bool false = AVal.bool false ∧ AVal.bool false = AVal.bool false ∧ AVal.bool false = AVal.bool false ∧ AVal.bool false = AVal.bool false ∧
 AVal.bool false = AVal.bool false ∧ AVal.bool false = AVal.bool false ∧ AVal.bool false = AVal.bool false ∧ AVal.bool false = AVal.bool false ∧ AVal.bool false = AVal.bool false ∧ AVal.bool false = AVal.bool false ∧
 AVal.bool false = AVal.bool false ∧ AVal.bool false = AVal.bool false ∧ AVal.bool false = AVal.bool false ∧ l = l ∧ (↑l.length : Int) = (↑l.length : Int) ∧ i64.wrap ((↑i : Int) + 1) = (↑s : Int) ∧ s ≤ l.length ∧
 l.length - s < l.length - i ∧ True)) ∧ ((hashT (at0 l (↑i : Int)) == 2) = false → (inR (1 : Int) (List.take i l) = true → ∃ (s : Nat),mp0.ms = mp0.ms ∧ mp0.ml = mp0.ml ∧ mp0.mt = mp0.mt ∧ mp0.mc = mp0.mc ∧ mp0.md =
 mp0.md ∧ inR (0 : Int) (List.take i l) = inR (0 : Int) (List.take s l) ∧ true = inR (1 : Int) (List.take s l) ∧ inR (2 : Int) (List.take i l) = inR (2 : Int) (List.take s l) ∧ AVal.bool false = AVal.bool false ∧
 AVal.bool false = AVal.bool false ∧ AVal.bool false = AVal.bool false ∧ AVal.bool false = AVal.bool false ∧ AVal.bool false = AVal.bool false ∧ AVal.bool false = AVal.bool false ∧ AVal.bool false = AVal.bool false ∧
 AVal.bool false = AVal.bool false ∧ AVal.bool false = AVal.bool false ∧ AVal.bool false = AVal.bool false ∧ AVal.bool false = AVal.bool false ∧ AVal.bool false = AVal.bool false ∧ AVal.bool false = AVal.bool false ∧ l =
 l ∧ (↑l.length : Int) = (↑l.length : Int) ∧ i64.wrap ((↑i : Int) + 1) = (↑s : Int) ∧ s ≤ l.length ∧ l.length - s < l.length - i ∧ True) ∧ (inR (1 : Int) (List.take i l) = false → ∃ (s : Nat),mp0.ms = mp0.ms ∧
 mp0.ml = mp0.ml ∧ mp0.mt = mp0.mt ∧ mp0.mc = mp0.mc ∧ mp0.md = mp0.md ∧ inR (0 : Int) (List.take i l) = inR (0 : Int) (List.take s l) ∧ true = inR (1 : Int) (List.take s l) ∧ inR (2 : Int) (List.take i l) = inR (2 : Int)
 (List.take s l) ∧ AVal.bool false = AVal.bool false ∧ AVal.bool false = AVal.bool false ∧ AVal.bool false = AVal.bool false ∧ AVal.bool false = AVal.bool false ∧ AVal.bool false = AVal.bool false ∧ AVal.bool false =
 AVal.bool false ∧ AVal.bool false = AVal.bool false ∧ AVal.bool false = AVal.bool false ∧ AVal.bool false = AVal.bool false ∧ AVal.bool false = AVal.bool false ∧ AVal.bool false = AVal.bool false ∧ AVal.bool false =
 AVal.bool false ∧ AVal.bool false = AVal.bool false ∧ l = l ∧ (↑l.length : Int) = (↑l.length : Int) ∧ i64.wrap ((↑i : Int) + 1) = (↑s : Int) ∧ s ≤ l.length ∧ l.length - s < l.length - i ∧ True)))) ∧ (decide ((↑i
 : Int) < (↑l.length : Int)) = false → (inR (0 : Int) (List.take i l) = true → (inR (1 : Int) (List.take i l) = true → (inR (2 : Int) (List.take i l) = true → [(0 : Int),(1 : Int),(2 : Int)] = rowsT l ∧ True) ∧ (inR (2
 : Int) (List.take i l) = false → [(0 : Int),(1 : Int)] = rowsT l ∧ True)) ∧ (inR (1 : Int) (List.take i l) = false → (inR (2 : Int) (List.take i l) = true → [(0 : Int),(2 : Int)] = rowsT l ∧ True) ∧ (inR (2 : Int)
 (List.take i l) = false → [(0 : Int)] = rowsT l ∧ True))) ∧ (inR (0 : Int) (List.take i l) = false → (inR (1 : Int) (List.take i l) = true → (inR (2 : Int) (List.take i l) = true → [(1 : Int),(2 : Int)] = rowsT l ∧
 True) ∧ (inR (2 : Int) (List.take i l) = false → [(1 : Int)] = rowsT l ∧ True)) ∧ (inR (1 : Int) (List.take i l) = false → (inR (2 : Int) (List.take i l) = true → [(2 : Int)] = rowsT l ∧ True) ∧ (inR (2 : Int) (List.take
 i l) = false → [] = rowsT l ∧ True))))) := by kernel_rfl
theorem hasB_snoc (l : List Wo) (w : Wo) (k : Int) : hasB (l ++ [w]) k = (hasB l k || w.pl == k) := by
 unfold hasB
 rw [List.any_append]
 simp
theorem hasB_take {l : List Wo} {k : Int} {i : Nat} (hlt : i < l.length) : hasB (l.take (i + 1)) k = (hasB (l.take i) k || (l[i]).pl == k) := by
 rw [List.take_succ_eq_append_getElem hlt,hasB_snoc]
theorem has_e_ok (s : Rs) (k : Int) : Paid (entryX F (lookC []) 400 Try.f87 b87 (hasF s.ls k) [.fp (enc5 s),.i .i64 k]) := by
 refine ⟨?_⟩
 rw [has_e]
 exact ⟨0,rfl,rfl,rfl,rfl,⟨Nat.zero_le _,rfl⟩,trivial⟩
theorem has_4_ok (l : List Wo) (hl : l.length ≤ 1000) (k : Int) (i : Nat) (hi : i ≤ l.length) (hh : hasB (l.take i) k = false) : Paid (cutVC F (lookC []) 400 Try.f87 b87 (hasF l k) 4 (hasC l k) i) := by
 refine ⟨?_⟩
 rw [has_4]
 refine ⟨fun h => ?_,fun h => ?_⟩
 ·simp only [decide_eq_true_eq] at h
  have hlt : i < l.length := by omega
  have hs := hasB_take (k := k) hlt
  rw [at3_get hlt]
  refine ⟨⟨by omega,h⟩,fun g => ⟨?_,trivial⟩,fun g => ⟨i + 1,rfl,rfl,rfl,by rw [wrap64 (by omega) (by omega)]; rfl,⟨hlt, ?_⟩,by omega,trivial⟩⟩
  ·have : l[i] ∈ l := List.getElem_mem hlt
   exact (List.any_eq_true.2 ⟨_,this,g⟩).symm
  ·rw [hs,hh,g]; rfl
 ·simp only [decide_eq_false_iff_not] at h
  rw [List.take_of_length_le (by omega)] at hh
  exact ⟨hh.symm,trivial⟩
theorem hasOk : CtrOk1 F.S 87 (mkCtr hasD) :=
 mkCtr_paid (fn := Try.f87) (body := b87) (ctr := lookC []) codOk noExt hookLow noneOk Try.func87 rfl rfl (by kernel_rfl) hasD 400 (fun (x : Rs × Int × Unit) => [(4,hasC x.1.ls x.2.1)]) (show 2 ≤ Try.f87.ntmps by decide) (show Try.f87.ntmps ≤ 512 by decide) (by kernel_rfl) (fun _ _ => ⟨rfl,rfl⟩)
  (fun (x : Rs × Int × Unit) h => has_e_ok x.1 x.2.1) (fun (x : Rs × Int × Unit) h q hm s hI => by
   simp only [List.mem_singleton] at hm
   subst hm
   exact has_4_ok x.1.ls h x.2.1 s hI.1 hI.2)
theorem l57Ok : CtrOk F.S (lookC l57) := lookC_ok fun p h => by
 simp only [l57,List.mem_cons,List.not_mem_nil,or_false] at h
 subst h
 exact hasOk
theorem room_e_ok (s : Rs) (k : Int) (h1 : s.rm = 32) (h2 : s.ls.length < 32) : Paid (entryX F (lookC l57) 400 Try.f57 b57 ⟨[],.a (.bool true),[]⟩ [.fp (enc5 s),.i .i64 k]) := by
 refine ⟨?_⟩
 rw [room_e]
 refine ⟨fun _ => ⟨rfl,trivial⟩,fun h => ?_⟩
 simp only [decide_eq_false_iff_not] at h
 omega
theorem roomOk : CtrOk1 F.S 57 (mkCtr roomD) :=
 mkCtr_paid (fn := Try.f57) (body := b57) (ctr := lookC l57) codOk noExt hookLow l57Ok Try.func57 rfl rfl (by kernel_rfl) roomD 400 (fun _ => []) (show 2 ≤ Try.f57.ntmps by decide) (show Try.f57.ntmps ≤ 512 by decide) (by kernel_rfl) (fun _ _ => ⟨rfl,rfl⟩)
  (fun (x : Rs × Int × Unit) h => room_e_ok x.1 x.2.1 h.1 h.2) (fun x h q hm => by cases hm)
theorem at_e_ok (s : Rs) (k : Int) (h1 : 0 ≤ k) (h2 : k < (s.ls.length : Int)) : Paid (entryX F (lookC []) 400 Try.f73 b73 ⟨[],.agg (enc3 (at3 s.ls k)),[]⟩ [.fp (enc5 s),.i .i64 k]) := by
 refine ⟨?_⟩
 rw [at_e]
 refine ⟨fun h => ?_,fun _ => ⟨fun h => ?_,fun _ => ⟨⟨h1,h2⟩,rfl,rfl,trivial⟩⟩⟩
 ·simp only [decide_eq_true_eq] at h; omega
 ·simp only [ge_iff_le,decide_eq_true_eq] at h; omega
theorem atOk : CtrOk1 F.S 73 (mkCtr atD) :=
 mkCtr_paid (fn := Try.f73) (body := b73) (ctr := lookC []) codOk noExt hookLow noneOk Try.func73 rfl rfl (by kernel_rfl) atD 400 (fun _ => []) (show 2 ≤ Try.f73.ntmps by decide) (show Try.f73.ntmps ≤ 512 by decide) (by kernel_rfl) (fun _ _ => ⟨rfl,rfl⟩)
  (fun (x : Rs × Int × Unit) h => at_e_ok x.1 x.2.1 h.1 h.2) (fun x h q hm => by cases hm)
theorem bad_e_ok (s : Mw) (k : Int) (h1 : 0 ≤ k) (h2 : k < (s.ws.length : Int)) : Paid (entryX F (lookC []) 400 Try.f50 b50 ⟨[],.a (.int .i64 0),[]⟩ [.fp (enc8 s),.i .i64 k]) := by
 refine ⟨?_⟩
 rw [bad_e]
 refine ⟨fun h => ?_,fun _ => ⟨fun h => ?_,fun _ => ⟨rfl,trivial⟩⟩⟩
 ·simp only [decide_eq_true_eq] at h; omega
 ·simp only [ge_iff_le,decide_eq_true_eq] at h; omega
theorem badOk : CtrOk1 F.S 50 (mkCtr badD) :=
 mkCtr_paid (fn := Try.f50) (body := b50) (ctr := lookC []) codOk noExt hookLow noneOk Try.func50 rfl rfl (by kernel_rfl) badD 400 (fun _ => []) (show 2 ≤ Try.f50.ntmps by decide) (show Try.f50.ntmps ≤ 512 by decide) (by kernel_rfl) (fun _ _ => ⟨rfl,rfl⟩)
  (fun (x : Mw × Int × Unit) h => bad_e_ok x.1 x.2.1 h.1 h.2) (fun x h q hm => by cases hm)
theorem bit_ok0 : Paid (entryX F (lookC []) 400 Try.f85 b85 ⟨[],.i .u64 (bitT 26),[]⟩ [.i .i64 26]) := by
 refine ⟨?_⟩
 rw [bit_e0]
 exact ⟨by decide,by decide,trivial⟩
theorem bit_ok1 : Paid (entryX F (lookC []) 400 Try.f85 b85 ⟨[],.i .u64 (bitT 28),[]⟩ [.i .i64 28]) := by
 refine ⟨?_⟩
 rw [bit_e1]
 exact ⟨by decide,by decide,trivial⟩
theorem bit_ok2 : Paid (entryX F (lookC []) 400 Try.f85 b85 ⟨[],.i .u64 (bitT 30),[]⟩ [.i .i64 30]) := by
 refine ⟨?_⟩
 rw [bit_e2]
 exact ⟨by decide,by decide,trivial⟩
theorem bit_ok3 : Paid (entryX F (lookC []) 400 Try.f85 b85 ⟨[],.i .u64 (bitT 32),[]⟩ [.i .i64 32]) := by
 refine ⟨?_⟩
 rw [bit_e3]
 exact ⟨by decide,by decide,trivial⟩
theorem bitOk : CtrOk1 F.S 85 (mkCtr bitD) :=
 mkCtr_paid (fn := Try.f85) (body := b85) (ctr := lookC []) codOk noExt hookLow noneOk Try.func85 rfl rfl (by kernel_rfl) bitD 400 (fun _ => []) (show 1 ≤ Try.f85.ntmps by decide) (show Try.f85.ntmps ≤ 512 by decide) (by kernel_rfl) (fun _ _ => ⟨rfl,rfl⟩)
  (fun (x : Int × Unit) h => by
   obtain ⟨a,u⟩ := x
   rcases h with h | h | h | h
   ·obtain rfl : a = (26 : Int) := h
    exact bit_ok0
   ·obtain rfl : a = (28 : Int) := h
    exact bit_ok1
   ·obtain rfl : a = (30 : Int) := h
    exact bit_ok2
   ·obtain rfl : a = (32 : Int) := h
    exact bit_ok3) (fun x h q hm => by cases hm)
theorem l86Ok : CtrOk F.S (lookC l86) := lookC_ok fun p h => by
 simp only [l86,List.mem_cons,List.not_mem_nil,or_false] at h
 subst h
 exact bitOk
def filtB (a b c d : Bool) : Int := (if a then 67108864 else 0) + (if b then 268435456 else 0) + (if c then 1073741824 else 0) + (if d then 4294967296 else 0)
theorem filt_is (l : List Wo) : filtT l = filtB (hasB l 26) (hasB l 28) (hasB l 30) (hasB l 32) := rfl
theorem filt_bit (l : List Wo) (k : Int) (hk : isData k) : (u64.wrap ((BitVec.ofInt u64.bits (filtT l) &&& BitVec.ofInt u64.bits (bitT k)).toNat : Int) == 0) = !hasB l k := by
 rw [filt_is]
 rcases hk with rfl | rfl | rfl | rfl
 ·generalize hasB l 26 = a
  generalize hasB l 28 = b
  generalize hasB l 30 = c
  generalize hasB l 32 = d
  cases a <;> cases b <;> cases c <;> cases d <;> kernel_rfl
 ·generalize hasB l 26 = a
  generalize hasB l 28 = b
  generalize hasB l 30 = c
  generalize hasB l 32 = d
  cases a <;> cases b <;> cases c <;> cases d <;> kernel_rfl
 ·generalize hasB l 26 = a
  generalize hasB l 28 = b
  generalize hasB l 30 = c
  generalize hasB l 32 = d
  cases a <;> cases b <;> cases c <;> cases d <;> kernel_rfl
 ·generalize hasB l 26 = a
  generalize hasB l 28 = b
  generalize hasB l 30 = c
  generalize hasB l 32 = d
  cases a <;> cases b <;> cases c <;> cases d <;> kernel_rfl
theorem find_none : ∀ (l : List Wo) (k i : Int),hasB l k = false → findGo k l i = -1
 | [],k,i,_ => rfl
 | w :: l,k,i,h => by
  unfold hasB at h
  rw [List.any_cons,Bool.or_eq_false_iff] at h
  rw [findGo,if_neg (by simpa using h.1)]
  exact find_none l k (i + 1) h.2
theorem find_e_ok (w : Wr) (k : Int) (hk : isData k) (hf : w.fi = filtT w.ls) : Paid (entryX F (lookC l86) 400 Try.f86 b86 (findF w k) [.fp (enc6 w),.i .i64 k]) := by
 refine ⟨?_⟩
 rw [find_e,hf,filt_bit _ _ hk]
 refine ⟨hk,fun h => ⟨?_,trivial⟩,fun _ => ⟨0,rfl,rfl,rfl,rfl,rfl,rfl,⟨Nat.zero_le _,rfl⟩,trivial⟩⟩
 exact (find_none w.ls k 0 (by simpa using h)).symm
theorem find_4_ok (w : Wr) (hl : w.ls.length ≤ 1000) (k : Int) (i : Nat) (hi : i ≤ w.ls.length) (hh : findT w.ls k = findGo k (w.ls.drop i) i) : Paid (cutVC F (lookC l86) 400 Try.f86 b86 (findF w k) 4 (findC w k) i) := by
 refine ⟨?_⟩
 rw [find_4]
 refine ⟨fun h => ?_,fun h => ?_⟩
 ·simp only [decide_eq_true_eq] at h
  have hlt : i < w.ls.length := by omega
  rw [at3_get hlt]
  rw [List.drop_eq_getElem_cons hlt,findGo] at hh
  refine ⟨⟨by omega,h⟩,fun g => ⟨?_,trivial⟩,fun g => ⟨i + 1,rfl,rfl,rfl,rfl,rfl,by rw [wrap64 (by omega) (by omega)]; rfl,⟨hlt, ?_⟩,by omega,trivial⟩⟩
  ·rw [hh,if_pos (eq_of_beq g)]
  ·rw [hh,if_neg (ne_of_beq_false g)]; rfl
 ·simp only [decide_eq_false_iff_not] at h
  rw [List.drop_eq_nil_of_le (by omega)] at hh
  exact ⟨hh.symm,trivial⟩
theorem findOk : CtrOk1 F.S 86 (mkCtr findD) :=
 mkCtr_paid (fn := Try.f86) (body := b86) (ctr := lookC l86) codOk noExt hookLow l86Ok Try.func86 rfl rfl (by kernel_rfl) findD 400 (fun (x : Wr × Int × Unit) => [(4,findC x.1 x.2.1)]) (show 2 ≤ Try.f86.ntmps by decide) (show Try.f86.ntmps ≤ 512 by decide) (by kernel_rfl) (fun _ _ => ⟨rfl,rfl⟩)
  (fun (x : Wr × Int × Unit) h => find_e_ok x.1 x.2.1 h.2.1 h.2.2) (fun (x : Wr × Int × Unit) h q hm s hI => by
   simp only [List.mem_singleton] at hm
   subst hm
   exact find_4_ok x.1 h.1 x.2.1 s hI.1 hI.2)
theorem places_e_ok (l : List Wo) : Paid (entryX F (lookC []) 400 Try.f77 b77 (placesF l) [.tl (T := T) 3 l]) := by
 refine ⟨?_⟩
 rw [places_e]
 exact ⟨0,rfl,rfl,rfl,rfl,Nat.zero_le _,trivial⟩
theorem places_3_ok (l : List Wo) (hl : l.length ≤ 1000) (i : Nat) (hi : i ≤ l.length) : Paid (cutVC F (lookC []) 400 Try.f77 b77 (placesF l) 3 (placesC l) i) := by
 refine ⟨?_⟩
 rw [places_3]
 refine ⟨fun h => ?_,fun h => ?_⟩
 ·simp only [decide_eq_true_eq] at h
  have hlt : i < l.length := by omega
  rw [at3_get hlt]
  refine ⟨⟨by omega,h⟩, ?_,i + 1, ?_,rfl,rfl,by rw [wrap64 (by omega) (by omega)]; rfl,hlt,by omega,trivial⟩
  ·simp only [List.length_map,List.length_take,List.length_cons,List.length_nil]; omega
  ·rw [List.take_succ_eq_append_getElem hlt,List.map_append]; rfl
 ·simp only [decide_eq_false_iff_not] at h
  rw [List.take_of_length_le (by omega)]
  exact ⟨rfl,trivial⟩
theorem placesOk : CtrOk1 F.S 77 (mkCtr placesD) :=
 mkCtr_paid (fn := Try.f77) (body := b77) (ctr := lookC []) codOk noExt hookLow noneOk Try.func77 rfl rfl (by kernel_rfl) placesD 400 (fun (x : List Wo × Unit) => [(3,placesC x.1)]) (show 1 ≤ Try.f77.ntmps by decide) (show Try.f77.ntmps ≤ 512 by decide) (by kernel_rfl) (fun _ _ => ⟨rfl,rfl⟩)
  (fun (x : List Wo × Unit) h => places_e_ok x.1) (fun (x : List Wo × Unit) h q hm s hI => by
   simp only [List.mem_singleton] at hm
   subst hm
   exact places_3_ok x.1 h s hI)
theorem hash_three {a : Int} (h : isData a) : hashT a = 0 ∨ hashT a = 1 ∨ hashT a = 2 := by
 rcases h with rfl | rfl | rfl | rfl <;> decide
theorem hashCtrOk : CtrOk1 F.S 56 hashCtr := by
 intro E lo wlo args h H K av hh hS hA
 unfold hashCtr at hh
 obtain ⟨x,⟨⟨p1,p2⟩,hK⟩,hAx⟩ := takeAll_ok codOk hS hA hh
 have key : ∀ n : Int,hashT x.2.1 = n → (K (.a (.int .i64 n)) h).holds → Out E lo wlo h H (fun v H' => ∃ n,callA F.S (execA F.S n) lo 56 av H = some (v,H')) K := by
  intro n hn hk
  have h2 : (mkCtr hashD wlo args h fun sv h' => .need (sv = .i .i64 (hashT x.2.1) ∧ h' = h) (.ok)).holds → True := fun _ => trivial
  have hh2 : (takeAll h [.row 4,.int .i64] args fun (y : Mp × Int × Unit) => .need (y.1 = mp0 ∧ isData y.2.1) (.fork (hashT y.2.1 == 0) (K (.a (.int .i64 0)) h) (.fork (hashT y.2.1 == 2) (K (.a (.int .i64 2)) h) (K (.a (.int .i64 1)) h)))).holds := hh
  have hm : (mkCtr hashD wlo args h fun sv h' => .need (h' = h ∧ ∃ a : Int,sv = .i .i64 (hashT a) ∧ isData a ∧ ((hashT a = 0 → (K (.a (.int .i64 0)) h).holds) ∧ (hashT a = 2 → (K (.a (.int .i64 2)) h).holds) ∧ (hashT a = 1 → (K (.a (.int .i64 1)) h).holds))) .ok).holds := by
   refine takeAll_mono ?_ hh2
   rintro ⟨m,a,u⟩ ⟨⟨q1,q2⟩,q3⟩
   refine ⟨⟨q1,q2⟩, ?_⟩
   refine ⟨⟨List.append_nil _,a,rfl,q2,fun e => ?_,fun e => ?_,fun e => ?_⟩,trivial⟩
   ·exact q3.1 (by show (hashT a == 0) = true; rw [e]; rfl)
   ·exact (q3.2 (by show (hashT a == 0) = false; rw [e]; rfl)).1 (by show (hashT a == 2) = true; rw [e]; rfl)
   ·exact (q3.2 (by show (hashT a == 0) = false; rw [e]; rfl)).2 (by show (hashT a == 2) = false; rw [e]; rfl)
  obtain ⟨v,H',sv,h',E',g1,g2,g3,g4,g5,g6,g7⟩ := hashOk E lo wlo args h H _ av hm hS hA
  obtain ⟨⟨rfl,a,rfl,ha,k0,k2,k1⟩,_⟩ := g7
  cases g6
  rcases hash_three ha with e | e | e
  ·exact ⟨_,H',.a (.int .i64 0),h',E',g1,g2,g3,g4,g5,by rw [e]; exact .a _,k0 e⟩
  ·exact ⟨_,H',.a (.int .i64 1),h',E',g1,g2,g3,g4,g5,by rw [e]; exact .a _,k1 e⟩
  ·exact ⟨_,H',.a (.int .i64 2),h',E',g1,g2,g3,g4,g5,by rw [e]; exact .a _,k2 e⟩
 rcases fork_cases hK with ⟨h1,h2⟩ | ⟨h1,h2⟩
 ·exact key 0 (eq_of_beq h1) h2
 ·rcases fork_cases h2 with ⟨h3,h4⟩ | ⟨h3,h4⟩
  ·exact key 2 (eq_of_beq h3) h4
  ·rcases hash_three p2 with e | e | e
   ·exact absurd e (ne_of_beq_false h1)
   ·exact key 1 e h4
   ·exact absurd e (ne_of_beq_false h3)
theorem l76Ok : CtrOk F.S (lookC l76) := lookC_ok fun p h => by
 simp only [l76,List.mem_cons,List.not_mem_nil,or_false] at h
 subst h
 exact hashCtrOk
theorem inR_take {l : List Int} {r : Int} {i : Nat} (hlt : i < l.length) : inR r (l.take (i + 1)) = (inR r (l.take i) || hashT l[i] == r) := by
 rw [List.take_succ_eq_append_getElem hlt]
 unfold inR
 rw [List.any_append]
 simp
theorem rows_e_ok (l : List Int) : Paid (entryX F (lookC l76) 900 Try.f76 b76 (rowsF l) [.agg (enc4 mp0),.tl (T := T) 0 l]) := by
 refine ⟨?_⟩
 rw [rows_e]
 exact ⟨0,rfl,rfl,rfl,rfl,rfl,rfl,rfl,rfl,rfl,rfl,rfl,rfl,rfl,rfl,rfl,rfl,rfl,rfl,rfl,rfl,rfl,rfl,rfl,rfl,Nat.zero_le _,trivial⟩
set_option maxRecDepth 4000 in
theorem rows_3_ok (l : List Int) (hl : l.length ≤ 1000) (hd : ∀ a ∈ l,isData a) (i : Nat) (hi : i ≤ l.length) : Paid (cutVC F (lookC l76) 900 Try.f76 b76 (rowsF l) 3 (rowsC l) i) := by
 refine ⟨?_⟩
 rw [rows_3]
 refine ⟨fun h => ?_,fun h => ?_⟩
 ·simp only [decide_eq_true_eq] at h
  have hlt : i < l.length := by omega
  have s0 := inR_take (r := 0) hlt
  have s1 := inR_take (r := 1) hlt
  have s2 := inR_take (r := 2) hlt
  have hda := hd _ (List.getElem_mem hlt)
  rw [at0_get hlt]
  have h3 := hash_three hda
  have hw : i64.wrap ((i : Int) + 1) = ((i + 1 : Nat) : Int) := by rw [wrap64 (by omega) (by omega)]; rfl
  rw [hw]
  refine ⟨⟨by omega,h⟩,⟨rfl,hda⟩,fun g => ?_,fun g => ⟨fun g2 => ?_,fun g2 => ?_⟩⟩
  ·have e := eq_of_beq g
   rw [e] at s0 s1 s2
   simp only [beq_self_eq_true,Bool.or_true] at s0
   simp only [show ((0 : Int) == 1) = false from rfl,show ((0 : Int) == 2) = false from rfl,Bool.or_false] at s1 s2
   refine ⟨fun q => ⟨i + 1,rfl,rfl,rfl,rfl,rfl,s0.symm,s1.symm,s2.symm,rfl,rfl,rfl,rfl,rfl,rfl,rfl,rfl,rfl,rfl,rfl,rfl,rfl,rfl,rfl,rfl,hlt,by omega,trivial⟩,fun q => ⟨i + 1,rfl,rfl,rfl,rfl,rfl,s0.symm,s1.symm,s2.symm,rfl,rfl,rfl,rfl,rfl,rfl,rfl,rfl,rfl,rfl,rfl,rfl,rfl,rfl,rfl,rfl,hlt,by omega,trivial⟩⟩
  ·have e := eq_of_beq g2
   rw [e] at s0 s1 s2
   simp only [beq_self_eq_true,Bool.or_true] at s2
   simp only [show ((2 : Int) == 1) = false from rfl,show ((2 : Int) == 0) = false from rfl,Bool.or_false] at s0 s1
   refine ⟨fun q => ⟨i + 1,rfl,rfl,rfl,rfl,rfl,s0.symm,s1.symm,s2.symm,rfl,rfl,rfl,rfl,rfl,rfl,rfl,rfl,rfl,rfl,rfl,rfl,rfl,rfl,rfl,rfl,hlt,by omega,trivial⟩,fun q => ⟨i + 1,rfl,rfl,rfl,rfl,rfl,s0.symm,s1.symm,s2.symm,rfl,rfl,rfl,rfl,rfl,rfl,rfl,rfl,rfl,rfl,rfl,rfl,rfl,rfl,rfl,rfl,hlt,by omega,trivial⟩⟩
  ·have e : hashT l[i] = 1 := by
    rcases h3 with e | e | e
    ·exact absurd e (ne_of_beq_false g)
    ·exact e
    ·exact absurd e (ne_of_beq_false g2)
   rw [e] at s0 s1 s2
   simp only [beq_self_eq_true,Bool.or_true] at s1
   simp only [show ((1 : Int) == 0) = false from rfl,show ((1 : Int) == 2) = false from rfl,Bool.or_false] at s0 s2
   refine ⟨fun q => ⟨i + 1,rfl,rfl,rfl,rfl,rfl,s0.symm,s1.symm,s2.symm,rfl,rfl,rfl,rfl,rfl,rfl,rfl,rfl,rfl,rfl,rfl,rfl,rfl,rfl,rfl,rfl,hlt,by omega,trivial⟩,fun q => ⟨i + 1,rfl,rfl,rfl,rfl,rfl,s0.symm,s1.symm,s2.symm,rfl,rfl,rfl,rfl,rfl,rfl,rfl,rfl,rfl,rfl,rfl,rfl,rfl,rfl,rfl,rfl,hlt,by omega,trivial⟩⟩
 ·simp only [decide_eq_false_iff_not] at h
  rw [List.take_of_length_le (by omega)]
  unfold rowsT
  cases inR 0 l <;> cases inR 1 l <;> cases inR 2 l <;> simp
theorem rowsOk : CtrOk1 F.S 76 (mkCtr rowsD) :=
 mkCtr_paid (fn := Try.f76) (body := b76) (ctr := lookC l76) codOk noExt hookLow l76Ok Try.func76 rfl rfl (by kernel_rfl) rowsD 900 (fun (x : Mp × List Int × Unit) => [(3,rowsC x.2.1)]) (show 2 ≤ Try.f76.ntmps by decide) (show Try.f76.ntmps ≤ 512 by decide) (by kernel_rfl) (fun _ _ => ⟨rfl,rfl⟩)
  (fun (x : Mp × List Int × Unit) h => by
   obtain ⟨m,l,u⟩ := x
   obtain ⟨h1,h2,h3⟩ := h
   obtain rfl : m = mp0 := h1
   exact rows_e_ok l) (fun (x : Mp × List Int × Unit) h q hm s hI => by
   simp only [List.mem_singleton] at hm
   subst hm
   exact rows_3_ok x.2.1 h.2.1 h.2.2 s hI)
end Go.Proofs.Ytmjjljngaefpaaa

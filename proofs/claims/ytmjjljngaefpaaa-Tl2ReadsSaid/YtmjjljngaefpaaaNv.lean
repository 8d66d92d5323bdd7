/- What is written: what was read there last, and a number. -/
import Derived.Test.YtmjjljngaefpaaaNx
namespace Go.Proofs.Ytmjjljngaefpaaa
open Go.RowKit Go.Am Go.Sy
open Go.IntKind (i64 u64)
set_option linter.unusedVariables false
def vaGo (k v : Int) : List Wo → Int → Int
 | [],r => r
 | w :: l,r => vaGo k v l (if w.pl = k then i64.wrap (w.vl + v) else r)
def vaT (l : List Wo) (o : Op) : Int := vaGo o.pl o.vl l o.vl
def valueD : CtrD cod where
 pats := [.fskip 5 7,.row 2]
 pre := fun (x : Rl × Op × Unit) => x.1.ls.length ≤ 1000
 res := fun (x : Rl × Op × Unit) => .i .i64 (vaT x.1.ls x.2.1)
 objs := fun x => []
def valueC (l : Rl) (o : Op) : CutD cod := ⟨Nat,fun i => i ≤ l.ls.length,fun i => l.ls.length - i,
 fun i => [(0,.fp (List.replicate 5 .any ++ enc7 l)),(3,.ptr 0 0),(5,.i .i64 (vaT (l.ls.take i) o)),(6,.i .i64 (i : Int))],fun i => [.cells (enc2 o)]⟩
def valueF (l : Rl) (o : Op) : FnD cod := ⟨[(3,valueC l o)],.i .i64 (vaT l.ls o),[]⟩
noncomputable def b68 : Code := Try.f68.body.getD .skip
theorem value_e (l : Rl) (o : Op) : Go.Sy.Tree.holds (entryX F (lookC []) 400 Try.f68 b68 (valueF l o) [.fp (List.replicate 5 .any ++ enc7 l),.agg (enc2 o)]) = ( ∃ (s : Nat),l.ls = l.ls ∧ o.kd = o.kd ∧ o.pl = o.pl ∧
 o.vl = o.vl ∧ o.vl = vaT (List.take s l.ls) o ∧ (0 : Int) = (↑s : Int) ∧ s ≤ l.ls.length ∧ True) := by kernel_rfl
theorem value_3 (l : Rl) (o : Op) (i : Nat) : Go.Sy.Tree.holds (cutVC F (lookC []) 400 Try.f68 b68 (valueF l o) 3 (valueC l o) i) = ( (decide ((↑i : Int) < (↑l.ls.length : Int)) = true → ((0 : Int) ≤ (↑i : Int) ∧ (↑i :
 Int) < (↑l.ls.length : Int)) ∧ (((at3 l.ls (↑i : Int)).pl == o.pl) = true → ((0 : Int) ≤ (↑i : Int) ∧ (↑i : Int) < (↑l.ls.length : Int)) ∧ ∃ (s : Nat),l.ls = l.ls ∧ o.kd = o.kd ∧ o.pl = o.pl ∧ o.vl = o.vl ∧
 i64.wrap ((at3 l.ls (↑i : Int)).vl + o.vl) = vaT (List.take s l.ls) o ∧ i64.wrap ((↑i : Int) + 1) = (↑s : Int) ∧ s ≤ l.ls.length ∧ l.ls.length - s < l.ls.length - i ∧ True) ∧ (((at3 l.ls (↑i : Int)).pl
 == o.pl) = false → ∃ (s : Nat),l.ls = l.ls ∧ o.kd = o.kd ∧ o.pl = o.pl ∧ o.vl = o.vl ∧ vaT (List.take i l.ls) o = vaT (List.take s l.ls) o ∧ i64.wrap ((↑i : Int) + 1) = (↑s : Int) ∧ s ≤ l.ls.length ∧
 l.ls.length - s < l.ls.length - i ∧ True)) ∧ (decide ((↑i : Int) < (↑l.ls.length : Int)) = false → vaT (List.take i l.ls) o = vaT l.ls o ∧ True)) := by kernel_rfl
theorem vaGo_snoc (k v : Int) : ∀ (l : List Wo) (w : Wo) (r : Int),vaGo k v (l ++ [w]) r = if w.pl = k then i64.wrap (w.vl + v) else vaGo k v l r
 | [],w,r => rfl
 | u :: l,w,r => by
  rw [List.cons_append,vaGo,vaGo_snoc k v l w,vaGo]
theorem vaT_take {l : List Wo} {o : Op} {i : Nat} (hlt : i < l.length) : vaT (l.take (i + 1)) o = if (l[i]).pl = o.pl then i64.wrap ((l[i]).vl + o.vl) else vaT (l.take i) o := by
 rw [List.take_succ_eq_append_getElem hlt]
 exact vaGo_snoc _ _ _ _ _
theorem value_e_ok (l : Rl) (o : Op) : Paid (entryX F (lookC []) 400 Try.f68 b68 (valueF l o) [.fp (List.replicate 5 .any ++ enc7 l),.agg (enc2 o)]) := by
 refine ⟨?_⟩
 rw [value_e]
 exact ⟨0,rfl,rfl,rfl,rfl,rfl,rfl,Nat.zero_le _,trivial⟩
theorem value_3_ok (l : Rl) (hl : l.ls.length ≤ 1000) (o : Op) (i : Nat) (hi : i ≤ l.ls.length) : Paid (cutVC F (lookC []) 400 Try.f68 b68 (valueF l o) 3 (valueC l o) i) := by
 refine ⟨?_⟩
 rw [value_3]
 refine ⟨fun h => ?_,fun h => ?_⟩
 ·simp only [decide_eq_true_eq] at h
  have hlt : i < l.ls.length := by omega
  have hv := vaT_take (o := o) hlt
  have hw : i64.wrap ((i : Int) + 1) = ((i + 1 : Nat) : Int) := by rw [wrap64 (by omega) (by omega)]; rfl
  rw [at3_get hlt,hw]
  refine ⟨⟨by omega,h⟩,fun g => ⟨⟨by omega,h⟩,i + 1,rfl,rfl,rfl,rfl, ?_,rfl,hlt,by omega,trivial⟩,fun g => ⟨i + 1,rfl,rfl,rfl,rfl, ?_,rfl,hlt,by omega,trivial⟩⟩
  ·rw [hv,if_pos (eq_of_beq g)]
  ·rw [hv,if_neg (ne_of_beq_false g)]
 ·simp only [decide_eq_false_iff_not] at h
  rw [List.take_of_length_le (by omega)]
  exact ⟨rfl,trivial⟩
theorem valueOk : CtrOk1 F.S 68 (mkCtr valueD) :=
 mkCtr_paid (fn := Try.f68) (body := b68) (ctr := lookC []) codOk noExt hookLow noneOk Try.func68 rfl rfl (by kernel_rfl) valueD 400 (fun (x : Rl × Op × Unit) => [(3,valueC x.1 x.2.1)]) (show 2 ≤ Try.f68.ntmps by decide) (show Try.f68.ntmps ≤ 512 by decide) (by kernel_rfl) (fun _ _ => ⟨rfl,rfl⟩)
  (fun (x : Rl × Op × Unit) h => value_e_ok x.1 x.2.1) (fun (x : Rl × Op × Unit) h q hm s hI => by
   simp only [List.mem_singleton] at hm
   subst hm
   exact value_3_ok x.1 h x.2.1 s hI)
theorem filt_or2 (a b c d : Bool) (k : Int) (hk : isData k) : u64.wrap ((BitVec.ofInt u64.bits (filtB a b c d) ||| BitVec.ofInt u64.bits (bitT k)).toNat : Int) = filtB (a || (k == 26)) (b || (k == 28)) (c || (k == 30)) (d || (k == 32)) := by
 rcases hk with rfl | rfl | rfl | rfl <;> cases a <;> cases b <;> cases c <;> cases d <;> kernel_rfl
theorem filt_put (l : List Wo) (p v : Int) (hk : isData p) : u64.wrap (↑(BitVec.ofInt u64.bits (filtT l) ||| BitVec.ofInt u64.bits (bitT p)).toNat : Int) = filtT (l ++ [⟨p,v⟩]) := by
 rw [filt_is,filt_is,filt_or2 _ _ _ _ _ hk,hasB_snoc,hasB_snoc,hasB_snoc,hasB_snoc]
noncomputable def lNw : List (FuncId × Ctr cod) := noL [23,30,32,41] ++ [(17,mkCtr dataD),(68,mkCtr valueD),(67,lenCtr 0 45 (inL (noL [41] ++ lLit ++ lX) Try.f67)),(33,lenCtr 43 47 (inL lX Try.f33))] ++ lLit ++ lX
end Go.Proofs.Ytmjjljngaefpaaa

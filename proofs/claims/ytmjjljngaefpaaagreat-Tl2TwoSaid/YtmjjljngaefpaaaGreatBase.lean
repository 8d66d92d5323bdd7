/- What the seat's idealised runs stand on: no package variable. Began as gen_base.py's print. -/
import Derived.Test.YtmjjljngaefpaaaGreatRows
import Derived.WalkKit
import Derived.KernelRfl
import Derived.Test.YtmjjljngaefpaaaGreatLib2
namespace Go.Proofs.YtmjjljngaefpaaaGreat
open Go.RowKit Go.Extern.Stop Go.Stop Go.Extern Go.Am
open Go.IntKind (i64 u64)
set_option linter.unusedVariables false
set_option linter.unusedSimpArgs false
noncomputable def globF (g : Nat) : Option (List AVal) := none
noncomputable def toldHook (l : List (FuncId × AVal)) (f : FuncId) : Option (Nat → List AVal → Heap → Option (AVal × Heap)) :=
 (l.find? fun x => x.1 == f).map fun x => fun _ args H => match args with | [] => some (x.2,H) | _ => none
def intsA : List AVal → Option (List Int)
 | [] => some []
 | .int .i64 n :: l => (intsA l).map (n :: ·)
 | _ => none
theorem intsA_ok : ∀ {l : List AVal} {ns : List Int},intsA l = some ns → l = ns.map (.int .i64)
 | [],ns,h => by
  simp only [intsA,qa] at h
  subst h
  rfl
 | a :: l,ns,h => by
  unfold intsA at h
  split at h
  ·rename_i h1
   cases h1
  ·rename_i n l' h1
   simp only [List.cons.injEq] at h1
   obtain ⟨rfl,rfl⟩ := h1
   rw [qd] at h
   obtain ⟨ms,h2,rfl⟩ := h
   rw [intsA_ok h2]
   rfl
  ·cases h
def mapA : AVal := .agg (([3,1,3,0,4] : List Int).map (.int .i64))
def argK : List AVal → Option (List Int)
 | [.agg cs] => if intsA cs = some [3,1,3,0,4] then some [] else none
 | [.agg cs,.agg ds] => if intsA cs = some [3,1,3,0,4] then (match intsA ds with
  | some (n :: ns) => some (n :: ns)
  | _ => none) else none
 | _ => none
def argL : List Int → List AVal
 | [] => [mapA]
 | n :: ns => [mapA,.agg ((n :: ns).map (.int .i64))]
theorem argK_ok {l : List AVal} {ns : List Int} (h : argK l = some ns) : l = argL ns := by
 unfold argK at h
 split at h
 ·rename_i cs
  split at h
  ·rename_i e
   cases h
   rw [intsA_ok e]
   rfl
  ·cases h
 ·rename_i cs ds
  split at h
  ·rename_i e
   split at h
   ·rename_i e2
    cases h
    rw [intsA_ok e,intsA_ok e2]
    rfl
   ·cases h
  ·cases h
 ·cases h
theorem bares_ints : ∀ ns : List Int,baresA (ns.map (.int .i64)) = true
 | [] => rfl
 | n :: ns => by simp only [List.map_cons,baresA,bares_ints ns,AVal.bare,Bool.and_true]
theorem bares_argL : ∀ ns : List Int,baresA (argL ns) = true
 | [] => rfl
 | n :: ns => by
  have h := bares_ints (n :: ns)
  simp only [argL,baresA,AVal.bare,h,Bool.and_true]
  rfl
noncomputable def litHook (k : List (FuncId × List Int × Int)) (f : FuncId) : Option (Nat → List AVal → Heap → Option (AVal × Heap)) :=
 bif k.any (fun x => Nat.beq x.1 f) then some fun _ args H => match argK args with
  | some ns => (k.find? fun x => x.1 == f && x.2.1 == ns).map fun x => (.int .i64 x.2.2,H)
  | none => none
 else none
noncomputable def hookAll (l : List (FuncId × AVal)) (k : List (FuncId × List Int × Int)) (f : FuncId) : Option (Nat → List AVal → Heap → Option (AVal × Heap)) := match toldHook l f with
 | some h => some h
 | none => litHook k f
noncomputable def St (pol : FuncId → Pol) (l : List (FuncId × AVal)) (k : List (FuncId × List Int × Int)) : AStat where
 P := Tryz.prog
 glob := globF
 pol := pol
 hook := hookAll l k
 meth := fun _ _ => none
 methV := fun _ _ _ => none
 methVOk := fun _ _ _ _ _ h => by cases h
 ext := fun _ _ => none
 extOk := fun _ _ _ h => by cases h
theorem noNum_all : (Tryz.prog.funcs.toList.all fun fn => !(fn.name == "runtime.NumGoroutine")) = true := by kernel_rfl
theorem hookSt {pol : FuncId → Pol} {l : List (FuncId × AVal)} {k : List (FuncId × List Int × Int)} {f : FuncId} {hk : Nat → List AVal → Heap → Option (AVal × Heap)} (h : (St pol l k).hook f = some hk) {lo : Nat} {args : List AVal} {H : Heap} {r : AVal} {H' : Heap} (e : hk lo args H = some (r,H')) :
 H' = H ∧ ((args = [] ∧ (f,r) ∈ l) ∨ ∃ ns m,args = argL ns ∧ r = .int .i64 m ∧ (f,ns,m) ∈ k) := by
 simp only [St] at h
 unfold hookAll at h
 split at h
 ·rename_i g hg
  cases h
  unfold toldHook at hg
  rw [qd] at hg
  obtain ⟨x,hx,rfl⟩ := hg
  have hm := List.mem_of_find?_eq_some hx
  have hf := List.find?_some hx
  simp only [beq_iff_eq] at hf
  subst hf
  cases args with
  | nil =>
   simp only [qa,qe] at e
   obtain ⟨rfl,rfl⟩ := e
   exact ⟨rfl,.inl ⟨rfl,hm⟩⟩
  | cons a q => cases e
 ·unfold litHook at h
  cases hb : k.any (fun x => Nat.beq x.1 f) with
  | false => rw [hb] at h; cases h
  | true =>
   rw [hb] at h
   simp only [cond_true,qa] at h
   subst h
   simp only at e
   split at e
   ·rename_i ns hn
    rw [qd] at e
    obtain ⟨x,hx,e⟩ := e
    simp only [qe] at e
    obtain ⟨rfl,rfl⟩ := e
    have hm := List.mem_of_find?_eq_some hx
    have hf := List.find?_some hx
    simp only [qk,beq_iff_eq] at hf
    obtain ⟨rfl,rfl⟩ := hf
    exact ⟨rfl,.inr ⟨x.2.1,x.2.2,argK_ok hn,rfl,hm⟩⟩
   ·cases e
theorem stOk0 (pol : FuncId → Pol) : StatOk (St pol [] []) where
 noNum := fun f fn h => by
  have h1 := List.all_eq_true.1 noNum_all fn (qt (i := f) (by rw [Array.getElem?_toList]; exact h))
  simpa using h1
 meth := fun _ _ _ h => by cases h
 hook := fun f hk h => by
  intro lo args H r H' e
  obtain ⟨_,⟨_,hm⟩ | ⟨ns,m,_,_,hm⟩⟩ := hookSt h e
  ·cases hm
  ·cases hm
 mixed := by kernel_rfl
 low := fun f hk h => by
  intro lo args H r H' e
  obtain ⟨rfl,_⟩ := hookSt h e
  exact ⟨qf _,fun _ _ _ => rfl⟩
def Told (l : List (FuncId × AVal)) : Prop := ∀ x ∈ l,x.2.bare = true ∧ ∃ pol n H1,runA (St pol [] []) n 0 x.1 [] [] = some (x.2,H1)
def Lits (k : List (FuncId × List Int × Int)) : Prop := ∀ x ∈ k,∃ pol n H1,runA (St pol [] []) n 0 x.1 (argL x.2.1) [] = some (.int .i64 x.2.2,H1)
theorem stOk (pol : FuncId → Pol) {l : List (FuncId × AVal)} {k : List (FuncId × List Int × Int)} (hl : Told l) (hk : Lits k) : StatOk (St pol l k) where
 noNum := (stOk0 pol).noNum
 meth := fun _ _ _ h => by cases h
 hook := fun f hh h => by
  intro lo args H r H' e c vs hR hG hv
  obtain ⟨rfl,⟨rfl,hm⟩ | ⟨ns,m,rfl,rfl,hm⟩⟩ := hookSt h e
  ·obtain ⟨hb,pol',n,H1,h1⟩ := hl _ hm
   exact lift_run (stOk0 pol') rfl hb h1 lo c H' vs hR ⟨hG.v,hG.t⟩ hv
  ·obtain ⟨pol',n,H1,h1⟩ := hk _ hm
   exact lift_run (stOk0 pol') (bares_argL ns) rfl h1 lo c H' vs hR ⟨hG.v,hG.t⟩ hv
 mixed := (stOk0 pol).mixed
 low := fun f hh h => by
  intro lo args H r H' e
  obtain ⟨rfl,_⟩ := hookSt h e
  exact ⟨qf _,fun _ _ _ => rfl⟩
theorem globOk (pol : FuncId → Pol) (l : List (FuncId × AVal)) (k : List (FuncId × List Int × Int)) (W : World) : GlobOk (St pol l k) (cx0 W) := ⟨fun g cs h => (by cases h),fun p h => (by cases h)⟩
end Go.Proofs.YtmjjljngaefpaaaGreat

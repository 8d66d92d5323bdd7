/- What the seat's idealised runs stand on: no package variable. Printed by a program (gen_base.py) off the dump. -/
import Derived.Test.YtmjjljngaefpaaaRows
import Derived.WalkKit
import Derived.KernelRfl
import Derived.Test.YtmjjljngaefpaaaLib2
namespace Go.Proofs.Ytmjjljngaefpaaa
open Go.RowKit Go.Extern.Stop Go.Stop Go.Extern Go.Am
open Go.IntKind (i64 u64)
set_option linter.unusedVariables false
set_option linter.unusedSimpArgs false
noncomputable def globF (g : Nat) : Option (List AVal) := none
noncomputable def toldHook (l : List (FuncId × AVal)) (f : FuncId) : Option (Nat → List AVal → Heap → Option (AVal × Heap)) :=
 (l.find? fun x => x.1 == f).map fun x => fun _ args H => match args with | [] => some (x.2,H) | _ => none
noncomputable def St (pol : FuncId → Pol) (l : List (FuncId × AVal)) : AStat where
 P := Try.prog
 glob := globF
 pol := pol
 hook := toldHook l
 meth := fun _ _ => none
 methV := fun _ _ _ => none
 methVOk := fun _ _ _ _ _ h => by cases h
 ext := fun _ _ => none
 extOk := fun _ _ _ h => by cases h
theorem noNum_all : (Try.prog.funcs.toList.all fun fn => !(fn.name == "runtime.NumGoroutine")) = true := by kernel_rfl
theorem hookSt {pol : FuncId → Pol} {l : List (FuncId × AVal)} {f : FuncId} {hk : Nat → List AVal → Heap → Option (AVal × Heap)} (h : (St pol l).hook f = some hk) :
 ∃ v,(f,v) ∈ l ∧ hk = fun _ args H => match args with | [] => some (v,H) | _ => none := by
 simp only [St] at h
 unfold toldHook at h
 rw [Option.map_eq_some_iff] at h
 obtain ⟨x,hx,rfl⟩ := h
 have hm := List.mem_of_find?_eq_some hx
 have hg := List.find?_some hx
 simp only [beq_iff_eq] at hg
 subst hg
 exact ⟨x.2,hm,rfl⟩
theorem told_low (v : AVal) : ∀ (lo : Nat) (args : List AVal) (H : Heap) (r : AVal) (H' : Heap),(match args with | [] => some (v,H) | _ => none) = some (r,H') → H.length ≤ H'.length ∧ ∀ b,b < lo → b < H.length → H'[b]? = H[b]? := by
 intro lo args H r H' h
 cases args with
 | nil =>
  simp only [Option.some.injEq,Prod.mk.injEq] at h
  obtain ⟨_,rfl⟩ := h
  exact ⟨Nat.le_refl _,fun _ _ _ => rfl⟩
 | cons a xs => cases h
theorem stOk0 (pol : FuncId → Pol) : StatOk (St pol []) where
 noNum := fun f fn h => by
  have h1 := List.all_eq_true.1 noNum_all fn (List.mem_of_getElem? (i := f) (by rw [Array.getElem?_toList]; exact h))
  simpa using h1
 meth := fun _ _ _ h => by cases h
 hook := fun f hk h => by
  obtain ⟨v,hm,_⟩ := hookSt h
  cases hm
 mixed := by kernel_rfl
 low := fun f hk h => by
  obtain ⟨v,hm,_⟩ := hookSt h
  cases hm
def Told (l : List (FuncId × AVal)) : Prop := ∀ x ∈ l,x.2.bare = true ∧ ∃ pol n H1,runA (St pol []) n 0 x.1 [] [] = some (x.2,H1)
theorem stOk (pol : FuncId → Pol) {l : List (FuncId × AVal)} (hl : Told l) : StatOk (St pol l) where
 noNum := (stOk0 pol).noNum
 meth := fun _ _ _ h => by cases h
 hook := fun f hk h => by
  obtain ⟨v,hm,rfl⟩ := hookSt h
  intro lo args H r H' e c vs hR hG hv
  cases args with
  | cons a xs => cases e
  | nil =>
   simp only [Option.some.injEq,Prod.mk.injEq] at e
   obtain ⟨rfl,rfl⟩ := e
   obtain ⟨hb,pol',n,H1,h1⟩ := hl _ hm
   exact lift_run (stOk0 pol') rfl hb h1 lo c H vs hR ⟨hG.v,hG.t⟩ hv
 mixed := (stOk0 pol).mixed
 low := fun f hk h => by
  obtain ⟨v,hm,rfl⟩ := hookSt h
  exact told_low v
theorem globOk (pol : FuncId → Pol) (l : List (FuncId × AVal)) (W : World) : GlobOk (St pol l) (cx0 W) := ⟨fun g cs h => (by cases h),fun p h => (by cases h)⟩
end Go.Proofs.Ytmjjljngaefpaaa

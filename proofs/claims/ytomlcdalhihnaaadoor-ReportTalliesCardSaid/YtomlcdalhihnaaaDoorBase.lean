/- What the seat's idealised runs stand on: laid tables of numbers. Printed by a program (wip/tools/base_plain.py) off the dump. -/
import Derived.Test.YtomlcdalhihnaaaDoorRows
import Derived.WalkKit
import Derived.LaidEql
import Derived.RowKitTokens
import Derived.LaidLaws
import Derived.LaidHandle
import Derived.KernelRfl
import Derived.Test.YtomlcdalhihnaaaDoorLib2
namespace Go.Proofs.YtomlcdalhihnaaaDoor
open Go.RowKit Go.Extern.Stop Go.Stop Go.Extern Go.Am

def data0 : List Int := [0, 1, 28, 2, 29, 14, 24, 3, 30, 22, 20, 15, 25, 17, 4, 8, 31, 27, 13, 23, 21, 19, 16, 7, 26, 12, 18, 6, 11, 5, 10, 9]
def data1 : List Int := [0, 1, 56, 2, 57, 49, 28, 3, 61, 58, 42, 50, 38, 29, 17, 4, 62, 47, 59, 36, 45, 43, 51, 22, 53, 39, 33, 30, 24, 18, 12, 5, 63, 55, 48, 27, 60, 41, 37, 16, 46, 35, 44, 21, 52, 32, 23, 11, 54, 26, 40, 15, 34, 20, 31, 10, 25, 14, 19, 9, 13, 8, 7, 6]
def data2 : List Int := [1, 10, 100, 1000, 10000, 100000, 1000000, 10000000, 100000000, 1000000000, 10000000000, 100000000000, 1000000000000, 10000000000000, 100000000000000, 1000000000000000, 10000000000000000, 100000000000000000, 1000000000000000000, 10000000000000000000]
noncomputable def globF (g : Nat) : Option (List AVal) := if g == 12 then some (data0.map (AVal.int .u8)) else if g == 13 then some (data1.map (AVal.int .u8)) else if g == 11 then some (data2.map (AVal.int .u64)) else none

/-- Functions without arguments of which a closed run has told what they answer. -/
noncomputable def toldHook (l : List (FuncId × AVal)) (f : FuncId) : Option (Nat → List AVal → Heap → Option (AVal × Heap)) :=
  (l.find? fun x => x.1 == f).map fun x => fun _ args H => match args with | [] => some (x.2, H) | _ => none

/-- What an idealised run stands on; pol: how each call ends; l: what is told of closed calls. -/
noncomputable def St (pol : FuncId → Pol) (l : List (FuncId × AVal)) : AStat where
  P := Tryd.prog
  glob := globF
  pol := pol
  hook := toldHook l
  meth := fun _ _ => none
  methV := fun _ _ _ => none
  methVOk := fun _ _ _ _ _ h => by cases h
  ext := fun _ _ => none
  extOk := fun _ _ _ h => by cases h

theorem noNum_all : (Tryd.prog.funcs.toList.all fun fn => !(fn.name == "runtime.NumGoroutine")) = true := by kernel_rfl

theorem hookSt {pol : FuncId → Pol} {l : List (FuncId × AVal)} {f : FuncId} {hk : Nat → List AVal → Heap → Option (AVal × Heap)} (h : (St pol l).hook f = some hk) :
    ∃ v, (f, v) ∈ l ∧ hk = fun _ args H => match args with | [] => some (v, H) | _ => none := by
  simp only [St] at h
  unfold toldHook at h
  rw [Option.map_eq_some_iff] at h
  obtain ⟨x, hx, rfl⟩ := h
  have hm := List.mem_of_find?_eq_some hx
  have hg := List.find?_some hx
  simp only [beq_iff_eq] at hg
  subst hg
  exact ⟨x.2, hm, rfl⟩

theorem told_low (v : AVal) : ∀ (lo : Nat) (args : List AVal) (H : Heap) (r : AVal) (H' : Heap), (match args with | [] => some (v, H) | _ => none) = some (r, H') → H.length ≤ H'.length ∧ ∀ b, b < lo → b < H.length → H'[b]? = H[b]? := by
  intro lo args H r H' h
  cases args with
  | nil =>
    simp only [Option.some.injEq, Prod.mk.injEq] at h
    obtain ⟨_, rfl⟩ := h
    exact ⟨Nat.le_refl _, fun _ _ _ => rfl⟩
  | cons a xs => cases h

theorem stOk0 (pol : FuncId → Pol) : StatOk (St pol []) where
  noNum := fun f fn h => by
    have h1 := List.all_eq_true.1 noNum_all fn (List.mem_of_getElem? (i := f) (by rw [Array.getElem?_toList]; exact h))
    simpa using h1
  meth := fun _ _ _ h => by cases h
  hook := fun f hk h => by
    obtain ⟨v, hm, _⟩ := hookSt h
    cases hm
  mixed := by kernel_rfl
  low := fun f hk h => by
    obtain ⟨v, hm, _⟩ := hookSt h
    cases hm

/-- What is told is so. -/
def Told (l : List (FuncId × AVal)) : Prop := ∀ x ∈ l, x.2.bare = true ∧ ∃ pol n H1, runA (St pol []) n 0 x.1 [] [] = some (x.2, H1)

theorem stOk (pol : FuncId → Pol) {l : List (FuncId × AVal)} (hl : Told l) : StatOk (St pol l) where
  noNum := (stOk0 pol).noNum
  meth := fun _ _ _ h => by cases h
  hook := fun f hk h => by
    obtain ⟨v, hm, rfl⟩ := hookSt h
    intro lo args H r H' e c vs hR hG hv
    cases args with
    | cons a xs => cases e
    | nil =>
      simp only [Option.some.injEq, Prod.mk.injEq] at e
      obtain ⟨rfl, rfl⟩ := e
      obtain ⟨hb, pol', n, H1, h1⟩ := hl _ hm
      exact lift_run (stOk0 pol') rfl hb h1 lo c H vs hR hG hv
  mixed := (stOk0 pol).mixed
  low := fun f hk h => by
    obtain ⟨v, hm, rfl⟩ := hookSt h
    exact told_low v

/-! ### The laid variables -/
/-- The laid list. -/
def laidL : List (String × DataW Unit) := ("math/bits.deBruijn32tab", .agg (data0.map fun m => .lit (.int .u8 m))) :: ("math/bits.deBruijn64tab", .agg (data1.map fun m => .lit (.int .u8 m))) :: ("internal/strconv.uint64pow10", .agg (data2.map fun m => .lit (.int .u64 m))) :: []

/-- What the laid condition gives an idealised run. -/
theorem globOk (pol : FuncId → Pol) (l : List (FuncId × AVal)) {W : World} (hL : laidMetH Tryd.prog laidL W) : ∃ θ, GlobOk (St pol l) (cx0 W θ) := by
  have h' : laidMet Tryd.prog (("math/bits.deBruijn32tab", .agg (data0.map fun m => .lit (.int .u8 m))) :: ("math/bits.deBruijn64tab", .agg (data1.map fun m => .lit (.int .u8 m))) :: ("internal/strconv.uint64pow10", .agg (data2.map fun m => .lit (.int .u64 m))) :: []) W := hL
  obtain ⟨ps, h1, h2, h3⟩ := h'
  obtain ⟨⟨p0, q0, l0, e0⟩, v0⟩ := laid_data (g := 12) (ns := data0) (k := .u8) h1 (by kernel_rfl) (by kernel_rfl) Tryd.underlying117 Tryd.underlying5 (by kernel_rfl) (by kernel_rfl) (by decide)
  obtain ⟨⟨p1, q1, l1, e1⟩, v1⟩ := laid_data (g := 13) (ns := data1) (k := .u8) l0 (by kernel_rfl) (by kernel_rfl) Tryd.underlying118 Tryd.underlying5 (by kernel_rfl) (by kernel_rfl) (by decide)
  obtain ⟨⟨p2, q2, l2, e2⟩, v2⟩ := laid_data (g := 11) (ns := data2) (k := .u64) l1 (by kernel_rfl) (by kernel_rfl) Tryd.underlying111 Tryd.underlying68 (by kernel_rfl) (by kernel_rfl) (by decide)
  refine ⟨[], fun g cs h => ?_⟩
  have h : globF g = some cs := h
  unfold globF at h
  split at h
  · rename_i e
    have e : g = 12 := by simpa using e
    subst e
    obtain rfl := Option.some.inj h
    exact v0 []
  split at h
  · rename_i e
    have e : g = 13 := by simpa using e
    subst e
    obtain rfl := Option.some.inj h
    exact v1 []
  split at h
  · rename_i e
    have e : g = 11 := by simpa using e
    subst e
    obtain rfl := Option.some.inj h
    exact v2 []
  cases h

end Go.Proofs.YtomlcdalhihnaaaDoor

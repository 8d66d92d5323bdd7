/- The law BlameCodes as an idealised run: what it stands on: the sentinels alone; the scripts of its runs. -/
import Derived.Test.YtomlcdalhihnaaaDoorHook
import Derived.Test.YtomlcdalhihnaaaDoorTop
import Derived.Test.YtomlcdalhihnaaaDoorAmScript
namespace Go.Proofs.YtomlcdalhihnaaaDoor.blameCodes
open Go.RowKit Go.Am

noncomputable def globN (g : Nat) : Option (List AVal) := ((sentRows.zipIdx).find? fun x => x.1.2.1 == g).map fun x => [.iface 119 (.eptr x.2 [.str x.1.2.2])]
def pol (f : FuncId) : Pol := if f == 18 || f == 40 then .pure else .keep
noncomputable def S0 (l : List (FuncId × AVal)) : AStat where
  P := Tryd.prog
  glob := globN
  pol := pol
  hook := toldHook l
  meth := metF
  methV := metV
  methVOk := metVOk
  ext := extF
  extOk := extOk

theorem hookS0 {l : List (FuncId × AVal)} {f : FuncId} {hk : Nat → List AVal → Heap → Option (AVal × Heap)} (h : (S0 l).hook f = some hk) :
    ∃ v, (f, v) ∈ l ∧ hk = fun _ args H => match args with | [] => some (v, H) | _ => none := by
  simp only [S0] at h
  unfold toldHook at h
  rw [Option.map_eq_some_iff] at h
  obtain ⟨x, hx, rfl⟩ := h
  have hm := List.mem_of_find?_eq_some hx
  have hg := List.find?_some hx
  simp only [beq_iff_eq] at hg
  subst hg
  exact ⟨x.2, hm, rfl⟩

set_option maxRecDepth 100000 in
theorem s0Ok : StatOk (S0 []) where
  noNum := fun f fn h => by
    have h1 := List.all_eq_true.1 noNum_all fn (List.mem_of_getElem? (i := f) (by rw [Array.getElem?_toList]; exact h))
    simpa using h1
  meth := metOk
  hook := fun f hk h => by
    obtain ⟨v, hm, _⟩ := hookS0 h
    cases hm
  mixed := by kernel_rfl
  low := fun f hk h => by
    obtain ⟨v, hm, _⟩ := hookS0 h
    cases hm

noncomputable def hookN (l : List (FuncId × AVal)) (f : FuncId) : Option HookT :=
  (l.find? fun x => x.1 == f).map fun x => fun _ args h => match args with | [] => some (x.2, h) | _ => none
theorem hookSimN (l : List (FuncId × AVal)) : HookSim (S0 l) (hookN l) := by
  intro f
  unfold hookN
  simp only [S0, toldHook]
  cases l.find? fun x => x.1 == f with
  | none => trivial
  | some x =>
    intro lo args h r h' ho e
    cases args with
    | cons a xs => cases e
    | nil =>
      simp only [Option.some.injEq, Prod.mk.injEq] at e
      obtain ⟨rfl, rfl⟩ := e
      exact ⟨ho, rfl⟩

def toldL : List (FuncId × AVal) := [(16, .bool true)]
noncomputable def S : AStat := S0 toldL
theorem toldRun : ∃ H', runA (S0 []) 5000 0 16 [] [] = some (.bool true, H') := runF_ok (hookSimN []) 5000 (by kernel_rfl)
set_option maxRecDepth 100000 in
theorem sOk : StatOk S where
  noNum := fun f fn h => by
    have h1 := List.all_eq_true.1 noNum_all fn (List.mem_of_getElem? (i := f) (by rw [Array.getElem?_toList]; exact h))
    simpa using h1
  meth := metOk
  hook := fun f hk h => by
    obtain ⟨v, hm, rfl⟩ := hookS0 h
    simp only [toldL, List.mem_singleton, Prod.mk.injEq] at hm
    obtain ⟨rfl, rfl⟩ := hm
    intro lo args H r H' e c vs hR hG hv
    cases args with
    | cons a xs => cases e
    | nil =>
      simp only [Option.some.injEq, Prod.mk.injEq] at e
      obtain ⟨rfl, rfl⟩ := e
      obtain ⟨H1, h1⟩ := toldRun
      exact lift_run s0Ok rfl rfl h1 lo c H vs hR hG hv
  mixed := by kernel_rfl
  low := fun f hk h => by
    obtain ⟨v, hm, rfl⟩ := hookS0 h
    exact told_low v

/-- The laid list: the sentinels. -/
def laidL : List (String × DataW Unit) := sentRows.map fun r => (r.1, sentD "*errors.errorString" r.2.2)
theorem laidWorld_met (os : Os) (args : Array Value) : laidMetH Tryd.prog laidL ((laidWorld os).forCall (fun _ _ => 0) ⟨#[], args, []⟩).memory :=
  laidMetH_of_parts (by exact laidMet_of_run' 8 (by kernel_rfl) (by kernel_rfl)) (by kernel_rfl)
theorem globOk (_p : FuncId → Pol) (_l : List (FuncId × AVal)) {W : World} (hL : laidMetH Tryd.prog laidL W) : ∃ θ, GlobOk S (cx0 W θ) := by
  have h' : laidMet Tryd.prog laidL W := hL
  have hf : laidL = sentRows.map (fun r => (r.1, sentD "*errors.errorString" r.2.2)) ++ [] := by simp [laidL]
  rw [hf] at h'
  obtain ⟨ps, h1, h2, h3⟩ := h'
  obtain ⟨θ, h1, h2, _, h4⟩ := laid_sents Tryd.underlying41 bRow Tryd.underlying119 Tryd.underlying139 rfl rfl Tryd.underlying9 bCellsES bCellsStr sentRows sentTypes h1 h2 h3
  refine ⟨θ, fun g cs h => ?_⟩
  have h : globN g = some cs := h
  unfold globN at h
  rw [Option.map_eq_some_iff] at h
  obtain ⟨x, hx, rfl⟩ := h
  have hm := List.mem_of_find?_eq_some hx
  have hg := List.find?_some hx
  rw [List.mem_zipIdx_iff_getElem?] at hm
  have hg : x.1.2.1 = g := by simpa using hg
  subst hg
  have hlt : x.2 < θ.length := by
    rw [h1]
    rcases Nat.lt_or_ge x.2 sentRows.length with h | h
    · exact h
    · rw [List.getElem?_eq_none h] at hm; cases hm
  have hy : θ[x.2]? = some (θ[x.2].1, θ[x.2].2) := List.getElem?_eq_getElem hlt
  exact sent_V h2 hy (h4 x.2 _ _ _ hm hy)

/-- blame.New at a number that is no code. -/
def scNew : Scr := [(2, 0, .val (.bool false)), (4, 0, .val (.bool false)), (6, 0, .val (.bool false)), (8, 0, .val (.bool false)), (10, 0, .val (.bool false)), (12, 0, .val (.bool false)), (14, 0, .val (.bool false)), (16, 0, .val (.bool false)), (18, 0, .val (.bool false)), (20, 0, .val (.bool false))]
noncomputable def run3 (a b : Int) (sc : Scr) : Option (AVal × List Prop) := (runS S (hookN toldL) 5000 0 4 [.int .i64 a, .int .i64 b] Hp.empty sc).map fun x => (x.1.1, x.2)
/-- It is none of them. -/
def ne (n k : Int) : Prop := some (AVal.bool (n == k)) = some (AVal.bool false)
theorem ne_of {n k : Int} (h : n ≠ k) : ne n k := by simp [ne, h]
def ge (n : Int) (b : Bool) : Prop := some (AVal.bool (decide (n ≥ 1))) = some (AVal.bool b)
theorem ge_of {n : Int} {b : Bool} (h : decide (n ≥ 1) = b) : ge n b := by simp [ge, ← h]
def le (n : Int) (b : Bool) : Prop := some (AVal.bool (decide (n ≤ 10))) = some (AVal.bool b)
theorem le_of {n : Int} {b : Bool} (h : decide (n ≤ 10) = b) : le n b := by simp [le, ← h]
end Go.Proofs.YtomlcdalhihnaaaDoor.blameCodes

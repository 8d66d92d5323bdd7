/- Tl2Reads: the law's cuts. -/
import Derived.Test.YtmjjljngaefpaaaTt
namespace Go.Proofs.Ytmjjljngaefpaaa
open Go.RowKit Go.Am Go.Sy
open Go.IntKind (i64 u64)
set_option linter.unusedVariables false
def clT (cl : Int) : Int := i64.wrap (1 + i64.wrap ((u64.wrap cl).tmod 2))
def cutU (s : List Int) : CutD cod := ⟨Nat,fun i => i ≤ s.length ∧ s.length ≤ 600 ∧ ∀ v ∈ s,v = 40,fun i => s.length - i,fun i => [(7,.R 0),(9,iv (i : Int))],fun i => [.rows 0 s false 0]⟩
def fnU (s : List Int) : FnD cod := ⟨[(7,cutU s)],.b true,[]⟩
noncomputable def lU : List (FuncId × Ctr cod) := [(7,toldCtr (.bool true)),(8,mkCtr togD)]
noncomputable def b3u : Code := Try.f3.body.getD .skip
def selU (rid : Nat) (r : SR cod) (h : SH cod) : Option Nat := some 0
theorem u_e (cl : Int) (l mv s : List Int) : Tree.holds (entryS F (lookC lU) 2000 Try.f3 b3u (fnU s) selU [.i .i64 cl,.tl (T := T) 0 l,.tl (T := T) 0 mv]) = ((decide ((l.length : Int) > 200) = true → true = true ∧ True) ∧ (decide ((l.length : Int) > 200) = false → (decide ((mv.length : Int) > 50) = true → true = true ∧ True) ∧ (decide ((mv.length : Int) > 50) = false →
 togD.pre (clT cl,l,mv,()) ∧ ∃ i : Nat,sumsG (clT cl) l mv = s ∧ 0 = (i : Int) ∧ (i ≤ s.length ∧ s.length ≤ 600 ∧ ∀ v ∈ s,v = 40) ∧ True))) := by kernel_rfl
theorem u_7 (s : List Int) (i : Nat) : Tree.holds (cutS F (lookC lU) 2000 Try.f3 b3u (fnU s) selU 7 (cutU s) i) = ((decide ((i : Int) < (s.length : Int)) = true → (0 ≤ (i : Int) ∧ (i : Int) < (s.length : Int)) ∧ (0 ≤ (i : Int) ∧ (i : Int) < (s.length : Int)) ∧ ((at0 s (i : Int) != 40) = true → false = true ∧ True) ∧
 ((at0 s (i : Int) != 40) = false → ∃ k : Nat,s = s ∧ i64.wrap ((i : Int) + 1) = (k : Int) ∧ (k ≤ s.length ∧ s.length ≤ 600 ∧ ∀ v ∈ s,v = 40) ∧ s.length - k < s.length - i ∧ True)) ∧ (decide ((i : Int) < (s.length : Int)) = false → true = true ∧ True)) := by kernel_rfl
theorem cl_12 (cl : Int) : clT cl = 1 ∨ clT cl = 2 := by
 unfold clT
 rw [uwrap,utm _ (by decide) (by decide),wrap_id (by omega) (by omega)]
 omega
theorem u_e_ok (cl : Int) (l mv : List Int) : Paid (entryS F (lookC lU) 2000 Try.f3 b3u (fnU (sumsG (clT cl) l mv)) selU [.i .i64 cl,.tl (T := T) 0 l,.tl (T := T) 0 mv]) := by
 refine ⟨?_⟩
 rw [u_e]
 refine ⟨fun _ => ⟨rfl,trivial⟩,fun h1 => ⟨fun _ => ⟨rfl,trivial⟩,fun h2 => ?_⟩⟩
 have h1 := of_decide_eq_false h1
 have h2 := of_decide_eq_false h2
 have h : Ok3 (clT cl) l mv := ⟨cl_12 cl,by omega,by omega⟩
 have hs : (sumsG (clT cl) l mv).length ≤ l.length + 300 := it_s _
 exact ⟨h,0,rfl,rfl,⟨Nat.zero_le _,by omega,sums_40 h⟩,trivial⟩
theorem u_7_ok (s : List Int) (i : Nat) (hI : i ≤ s.length ∧ s.length ≤ 600 ∧ ∀ v ∈ s,v = 40) : Paid (cutS F (lookC lU) 2000 Try.f3 b3u (fnU s) selU 7 (cutU s) i) := by
 obtain ⟨h1,h2,h3⟩ := hI
 refine ⟨?_⟩
 rw [u_7]
 refine ⟨fun g => ?_,fun _ => ⟨rfl,trivial⟩⟩
 have g := of_decide_eq_true g
 have hi : i < s.length := by omega
 have e : at0 s (i : Int) = 40 := by rw [at0_get hi]; exact h3 _ (List.getElem_mem hi)
 exact ⟨⟨by omega,g⟩,⟨by omega,g⟩,(fun k => by rw [e] at k; cases k),fun _ => ⟨i + 1,rfl,wr1 (k := 600) (by omega) (by decide),⟨hi,h2,h3⟩,by omega,trivial⟩⟩
theorem lUOk : CtrOk F.S (lookC lU) := lookC_ok (LOk.cons (toldCtr_ok rfl) (LOk.cons togOk LOk.nil))
theorem rd_run (cl : Int) (l mv : List Int) {av : List AVal} (hA : Ers (C := cod) (away []) [.i .i64 cl,.tl (T := T) 0 l,.tl (T := T) 0 mv] av) : ∃ m H',runA S m 0 3 av [] = some (.bool true,H') :=
 law_runsS (F := F) (fn := Try.f3) (body := b3u) (args := [.i .i64 cl,.tl (T := T) 0 l,.tl (T := T) 0 mv]) codOk noExt hookLow lUOk Try.func3 rfl rfl (by kernel_rfl) 2000 [(7,cutU (sumsG (clT cl) l mv))] selU (show 3 ≤ Try.f3.ntmps by decide) (show Try.f3.ntmps ≤ 512 by decide) (by kernel_rfl)
  (u_e_ok cl l mv) (fun q hm s hI => by
  rw [List.mem_singleton] at hm
  subst hm
  exact u_7_ok _ s hI) hA
end Go.Proofs.Ytmjjljngaefpaaa

/- hold.All at the example: its contract where nothing is one's own; told. -/
import Derived.Test.YtcholkmididfmaaGreatDoorRb
import Derived.Test.YtcholkmididfmaaGreatDoorRc
import Derived.Test.YtcholkmididfmaaGreatDoorRd
import Derived.Test.YtcholkmididfmaaGreatDoorRe
import Derived.Test.YtcholkmididfmaaGreatDoorSx
namespace Go.Proofs.YtcholkmididfmaaGreatDoor
open Go.RowKit Go.Am
set_option linter.unusedVariables false
theorem rds : ∀ k,k < 34 → roundF SR HT0 100000 [loopP] [1,7,8,9] (taus k) (st k) = some (.normal,st (k + 1)) := by
 intro k hk
 have h : RoundOk k := by
  match k,hk with
  | 0,_ => exact rd0
  | 1,_ => exact rd1
  | 2,_ => exact rd2
  | 3,_ => exact rd3
  | 4,_ => exact rd4
  | 5,_ => exact rd5
  | 6,_ => exact rd6
  | 7,_ => exact rd7
  | 8,_ => exact rd8
  | 9,_ => exact rd9
  | 10,_ => exact rd10
  | 11,_ => exact rd11
  | 12,_ => exact rd12
  | 13,_ => exact rd13
  | 14,_ => exact rd14
  | 15,_ => exact rd15
  | 16,_ => exact rd16
  | 17,_ => exact rd17
  | 18,_ => exact rd18
  | 19,_ => exact rd19
  | 20,_ => exact rd20
  | 21,_ => exact rd21
  | 22,_ => exact rd22
  | 23,_ => exact rd23
  | 24,_ => exact rd24
  | 25,_ => exact rd25
  | 26,_ => exact rd26
  | 27,_ => exact rd27
  | 28,_ => exact rd28
  | 29,_ => exact rd29
  | 30,_ => exact rd30
  | 31,_ => exact rd31
  | 32,_ => exact rd32
  | 33,_ => exact rd33
  | k + 34,h => exact absurd h (by omega)
 exact h
theorem srOk : StatOk SR := stOk polR toldNil
theorem srSim : HookSim SR HT0 := hookSim polR
def allR : AVal := tupled resA
def allQ : OutQ := fun x ρ H => x = .ret ∧ ρ = stR.1 ∧ H = []
theorem post_wp {E : Ent} (hE : E.Bare) : WpL SR E postL stE.1 stE.2 (fun x ρ H => ∃ ρ1 H1,Weak SR E ρ H ρ1 H1 ∧ allQ x ρ1 H1) :=
 WpL.last srOk hE rd_post ⟨rfl,rfl,rfl⟩
theorem all_wp {E : Ent} (hE : E.Bare) : Wp SR E b15 st0.1 st0.2 (fun x ρ H => allQ x ρ H) := by
 refine Wp.mono (Q := fun x ρ H => ∃ ρ1 H1,Weak SR E ρ H ρ1 H1 ∧ allQ x ρ1 H1) (Wp.of_flat ?_) (fun x ρ' H' h => h)
 rw [flat_eq]
 refine WpL.round srOk srSim hE rd_pre ?_
 refine Wp.block ?_
 refine Wp.rounds srOk srSim hE (τs := taus) (st := st) (n := 34) (i := 0) rds rdE ?_
 intro ρ H hw
 exact .inl ⟨rfl,WpL.weak hw (post_wp hE)⟩
theorem f15Body : Tryz.f12.body = some b15 := by kernel_rfl
theorem all_res : resultsA SR stR.1 [] Tryz.f12.results.toList = some resA := by kernel_rfl
theorem all_calls : ∀ c vs,Rel c [] → GlobOk (St (fun _ => .keep) []) c → Vs c [cfgA,i 5000] vs → ∃ H1,Calls Tryz.prog 12 vs.toArray c.w (CallPost 0 c [] allR H1) := by
 intro c vs hR hG hv
 refine ⟨[],(contract_of_wp (S := SR) (fn := Tryz.f12) (body := b15) Tryz.func12 f15Body hR ⟨hG.v,hG.t⟩ hv (lo := 0) (r := allR) (H1 := []) ?_).2⟩
 refine Wp.mono (all_wp (bareEnt hR)) ?_
 rintro x ρ H ⟨rfl,rfl,rfl⟩
 exact ⟨_,_,Weak.refl,fun i h => (by cases h),rfl,resA,all_res,rfl⟩
def toldA : Lits := [(12,[cfgA,i 5000],allR)]
theorem toldA_ok : ToldC toldA := by
 intro f a v h
 simp only [toldA,List.mem_cons,List.not_mem_nil,or_false,qe] at h
 obtain ⟨rfl,rfl,rfl⟩ := h
 exact ⟨by kernel_rfl,by kernel_rfl,⟨_,Tryz.func12,by kernel_rfl⟩,all_calls⟩
theorem told_run : (runA (St polR toldA) 5000 0 10 [] []).map (·.1) = some (.bool true) := by kernel_rfl
theorem told : ToldC toldL := by
 intro f a v h
 simp only [toldL,List.mem_cons,List.not_mem_nil,or_false,qe] at h
 obtain ⟨rfl,rfl,rfl⟩ := h
 refine ⟨rfl,rfl,⟨_,Tryz.func10,by kernel_rfl⟩,fun c vs hR hG hv => ?_⟩
 obtain ⟨⟨v,H1⟩,h1,h2⟩ := Option.map_eq_some_iff.1 told_run
 subst h2
 exact ⟨H1,(runA_ok (stOk polR toldA_ok) 5000 0 10 [] [] _ _ h1 c vs hR ⟨hG.v,hG.t⟩ hv).2⟩
end Go.Proofs.YtcholkmididfmaaGreatDoor

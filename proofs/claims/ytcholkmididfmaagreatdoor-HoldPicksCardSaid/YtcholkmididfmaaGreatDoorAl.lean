import Derived.Test.YtcholkmididfmaaGreatDoorRb
import Derived.Test.YtcholkmididfmaaGreatDoorRc
import Derived.Test.YtcholkmididfmaaGreatDoorRd
import Derived.Test.YtcholkmididfmaaGreatDoorRe
import Derived.Test.YtcholkmididfmaaGreatDoorCod
set_option linter.unusedVariables false
set_option linter.unusedSimpArgs false
namespace Go.Proofs.Y
open Go.RowKit Go.Am
theorem rds:∀k,k<34→jB SR HT0 100000 [Ao] [1,7,8,9] (LP k) (st k)=some (.normal,st (k+1)):=by
 intro k a;have h:bp k:=by
  match k,a with
  |0,_=>exact rd0
  |1,_=>exact rd1
  |2,_=>exact rd2
  |3,_=>exact rd3
  |4,_=>exact rd4
  |5,_=>exact rd5
  |6,_=>exact rd6
  |7,_=>exact rd7
  |8,_=>exact rd8
  |9,_=>exact rd9
  |10,_=>exact S2
  |11,_=>exact R7
  |12,_=>exact SZ
  |13,_=>exact Tz
  |14,_=>exact RG
  |15,_=>exact QX
  |16,_=>exact R0
  |17,_=>exact Rr
  |18,_=>exact RL
  |19,_=>exact SA
  |20,_=>exact Tu
  |21,_=>exact R9
  |22,_=>exact RR
  |23,_=>exact QP
  |24,_=>exact T6
  |25,_=>exact Uk
  |26,_=>exact To
  |27,_=>exact Q1
  |28,_=>exact R5
  |29,_=>exact R6
  |30,_=>exact SO
  |31,_=>exact Rz
  |32,_=>exact RE
  |33,_=>exact S1
  |k+34,h=>exact absurd h (by omega)
 exact h
theorem LN:dH SR:=MU Fy Jt
theorem Kg:gs SR HT0:=IO Fy
def MB:bc:=hB Jp
def Np:sO:=fun x ρ H=>x= .ret∧ρ=yv.1∧H=[]
variable {E:Ent}
theorem Ii(b:E.Bare):WpL SR E G1 stE.1 stE.2 (fun x ρ H=>∃a H1,gP SR E ρ H a H1∧Np x a H1):=
 WpL.last LN b ID ⟨rfl,rfl,rfl⟩
theorem Mc(a:E.Bare):Wp SR E b15 st0.1 st0.2 (fun x ρ H=>Np x ρ H):=by
 refine Wp.mono (Q:=fun x ρ H=>∃b H1,gP SR E ρ H b H1∧Np x b H1) (Wp.of_flat ?_) (fun x d H' h=>h)
 rw[JO];refine WpL.round LN Kg a KS ?_;refine Wp.block ?_;refine Wp.rounds LN Kg a (τs:=LP) (st:=st) (n:=34) (i:=0) rds rdE ?_;intro ρ H c;exact .inl ⟨rfl,WpL.weak c (Ii a)⟩
theorem II:Tryz.f12.body=some b15:=by kernel_rfl
theorem HN:dv SR yv.1 [] Tryz.f12.results.toList=some Jp:=by kernel_rfl
theorem Ck:∀c vs,Rel c []→cV (St (fun _=>.keep) []) c→Vs c [Ns,i 5000] vs→∃H1,Calls Tryz.prog 12 vs.toArray c.w (fk 0 c [] MB H1):=by
 intro c vs a b d;refine⟨[],(p3 (S:=SR) (fn:=Tryz.f12) (body:=b15) Tryz.func12 II a ⟨b.v,b.t⟩ d (lo:=0) (r:=MB) (H1:=[]) ?_).2⟩;refine Wp.mono (Mc (Ix a)) ?_;rintro x ρ H ⟨rfl,rfl,rfl⟩;exact⟨_,_,gP.refl,fun i h=>(by cases h),rfl,Jp,HN,rfl⟩
def Hm:sU:=[(12,[Ns,i 5000],MB)]
theorem DT:Bh Hm:=by
 intro f a v h;simp only[Hm,List.mem_cons,List.not_mem_nil,or_false,Prod.mk.injEq]at h;obtain⟨rfl,rfl,rfl⟩:=h;exact⟨by kernel_rfl,by kernel_rfl,⟨_,Tryz.func12,by kernel_rfl⟩,Ck⟩
theorem GL:(ro (St Fy Hm) 5000 0 10 [] []).map (·.1)=some (.bool true):=by kernel_rfl
theorem told:Bh tY:=by
 intro f a v h;simp only[tY,List.mem_cons,List.not_mem_nil,or_false,Prod.mk.injEq]at h;obtain⟨rfl,rfl,rfl⟩:=h;refine⟨rfl,rfl,⟨_,Tryz.func10,by kernel_rfl⟩,fun c vs e b g=>?_⟩
 obtain⟨⟨v,H1⟩,h1,d⟩:=Option.map_eq_some_iff.1 GL;subst d;exact⟨H1,(z7 (MU Fy DT) 5000 0 10 [] [] _ _ h1 c vs e ⟨b.v,b.t⟩ g).2⟩
end Go.Proofs.Y

/- Proved: the law HoldPicks answers true at every input (any rows of numbers, any picks), and leaves its arguments as they were. No condition beside the laid variables that the card ties to the program's text. -/
import Derived.Test.YtcholkmididfmaaGreatDoorOh
import Derived.Test.YtcholkmididfmaaGreatDoorAl
import Derived.Test.YtcholkmididfmaaGreatDoorTop
import Derived.Test.YtcholkmididfmaaGreatDoorCards
import Derived.Test.YtcholkmididfmaaGreatDoorTie
set_option linter.unusedVariables false
set_option linter.unusedSimpArgs false
namespace Go.Proofs.YtcholkmididfmaaGreatDoor.holdPicks
open Go.ChangeShapes Go.WideShapes Go.ChangeAt Go.RowKit Go.Am Go.Sy Go.Proofs.Y
theorem A3:G3 cod 0 (.int .i64) fun _=>True:=by
 intro cs h;obtain⟨a,rfl,_⟩:=h;exact⟨a,.cons (.i _ _) .nil,trivial⟩
theorem DY:G3 cod 5 (.slice (.int .i64)) fun _=>True:=by
 intro cs h;have h1:∃a,cs=[a]:=by
  simp only[Ty.Is]at h;rcases h with rfl|⟨rows,ex,rfl,_,_⟩
  ·exact⟨_,rfl⟩
  ·exact⟨_,rfl⟩
 obtain⟨a,rfl⟩:=h1;obtain⟨l,e,_,_⟩:=n7 (C:=cod) bE (n:=0) A3 rfl h;exact⟨l,.cons e .nil,trivial⟩
theorem Po{cs:List bc}(h:IsL [.int .i64,.int .i64,.int .i64,.int .i64,.int .i64,.int .i64,.int .i64,.int .i64] cs):∃k:K8,Ers (C:=cod) (gg []) (B8 k) cs:=by
 obtain⟨_,_,rfl,⟨a,rfl,_⟩,_,_,rfl,⟨b,rfl,_⟩,_,_,rfl,⟨c,rfl,_⟩,_,_,rfl,⟨d,rfl,_⟩,_,_,rfl,⟨e,rfl,_⟩,_,_,rfl,⟨f,rfl,_⟩,_,_,rfl,⟨g,rfl,_⟩,_,_,rfl,⟨i,rfl,_⟩,rfl⟩:=h;exact⟨⟨a,b,c,d,e,f,g,i⟩,.cons (.i _ _) (.cons (.i _ _) (.cons (.i _ _) (.cons (.i _ _) (.cons (.i _ _) (.cons (.i _ _) (.cons (.i _ _) (.cons (.i _ _) .nil)))))))⟩
theorem run(a0:List bc)(b c:bc)(d:IsL [.int .i64,.int .i64,.int .i64,.int .i64,.int .i64,.int .i64,.int .i64,.int .i64] a0)(h1:(Ty.slice (.slice (.int .i64))).Is [b])(e:(Ty.slice (.int .i64)).Is [c]):
 ∃n H',ro S n 0 8 [.agg a0,b,c] []=some (.bool true,H'):=by
 obtain⟨k,a⟩:=Po d;obtain⟨rows,e1,_,_⟩:=n7 (C:=cod) bE (n:=5) DY rfl h1;obtain⟨l,e2,_,_⟩:=n7 (C:=cod) bE (n:=0) A3 rfl e;exact Dk k rows l (.cons (.agg a.1 a.2) (.cons e1 (.cons e2 .nil)))
theorem sOk:dH S:=MU pol told
set_option maxRecDepth 100000 in
theorem lifted(os:Os)(c:os.Started)(H:Type)(enc:TypeId×Value→H):
 ReturnsInHanded {} Tryz.checked os 8 .any (fun w args=>(Rows.holdPicksSpec.pre enc Tryz.prog Tryz.f8 [] false w args∧laidMetH Tryz.prog pi w)∧sizedMet enc Tryz.prog Tryz.f8 (OpenSpec.ofChange Rows.holdPicksSpec) false w args)
  (Rows.holdPicksSpec.post enc Tryz.prog Tryz.f8 false true false false):=by
 refine returnsInHanded_of_change_and (C:=Tryz.checked) (X:=fun w _=>laidMetH Tryz.prog pi w) (fun _ _ _ Q h=>h.of_heap Q) own c (by kernel_rfl) Tryz.func8
  (ChangeSpec.witness_at (enc:=enc) (C:=Tryz.checked) (os:=os) (X:=fun w _=>laidMetH Tryz.prog pi w) false (laidWorld os) #[.agg #[.int .i64 0,.int .i64 0,.int .i64 0,.int .i64 0,.int .i64 0,.int .i64 0,.int .i64 0,.int .i64 0],.slice none 0 0,.slice none 0 0] 8 rfl (by kernel_rfl) (by kernel_rfl) (by kernel_rfl) (by kernel_rfl) (by kernel_rfl) (laidWorld_met os _)) ?_
 intro W base args ds R e b l _ _ u _;have a:∀(j:Nat) t v,Tryz.f8.params[j]?=some t→args[j]?=some v→Value.okWide Tryz.prog W .any base t v:=b;have f:=l;obtain⟨p,q,d,x,rfl,y,hnd⟩:=l;have k:DataW.TrodAll enc Tryz.prog W 0 (fun _=>true) true Tryz.f8.params.toList args.toList ds p:=d
 rw[Tryz.params8]at k a;obtain⟨m,z,U,A,Y,q0,g,rfl,rfl,B,r0⟩:=trodAll_cons k;obtain⟨v1,D,Z,E,p1,q1,rfl,rfl,rfl,h1,r1⟩:=trodAll_cons r0;obtain⟨v2,G,d2,I,p2,q2,rfl,rfl,rfl,J,r2⟩:=trodAll_cons r1;obtain⟨rfl,rfl,rfl⟩:=trodAll_nil r2;obtain rfl:args= #[m,v1,v2]:=by cases args;simp_all
 obtain⟨rfl,rfl⟩:=trodVars_none x;obtain⟨θ,K⟩:=Mi pol tY u;obtain⟨a0,L,M⟩:=H3 (θ:=θ) (fs:=[.int .i64,.int .i64,.int .i64,.int .i64,.int .i64,.int .i64,.int .i64,.int .i64]) (by kernel_rfl) (a 0 22 m rfl rfl) B
 obtain⟨o,e1,N⟩:=z6 (θ:=θ) (ty:=.slice (.slice (.int .i64))) nofun (by kernel_rfl) (a 1 23 v1 rfl rfl) h1
 obtain⟨s,e2,O⟩:=z6 (θ:=θ) (ty:=.slice (.int .i64)) nofun (by kernel_rfl) (a 2 28 v2 rfl rfl) J
 clear d b;obtain⟨n,H',P⟩:=run a0 o s M N O;exact uL sOk rfl laidOut f (by kernel_rfl) rfl rfl Tryz.underlying4 rfl K (av:=[.agg a0,o,s])
  ⟨_,_,rfl,L,_,_,rfl,e1,_,_,rfl,e2,rfl⟩ P
theorem over:Rows.holdPicksRow.holds Tryz.pinned (OpenSpec.ofChange Rows.holdPicksSpec):=
 OpenClaim.holds_of_wide 8 Tryz.f8 rfl rfl rfl rfl rfl rfl rfl ⟨rfl,rfl,rfl,rfl,rfl⟩ rfl rfl rfl rfl rfl (by kernel_rfl) Tryz.func8 (by kernel_rfl)
  (qb (by kernel_rfl)) (by unfold Func.isWrapper;first|(rw[if_pos (by decide+kernel)];kernel_rfl)|(rw[if_neg (by decide+kernel)];exact⟨rfl,rfl⟩))
  (fun os a H enc _=>lifted os a H enc)
theorem proved:Rows.HoldPicksCardSaid:=
 Claim7.holds_tied_plain_at .later [] _ true _ true
  over (fun _ h=>by cases h) (by kernel_rfl) (fun _ h=>by cases h) holdPicks_row_tie rfl ⟨rfl,rfl⟩ (by kernel_rfl) rfl
  (fun f fn d b=>by
   obtain rfl:f=8:=Option.some.inj ((show Tryz.prog.funcNamed "syncope/syncopelaw24.HoldPicks" =some 8 by kernel_rfl).symm.trans d)|>.symm
   obtain rfl:fn=Tryz.f8:=(Option.some.inj (Tryz.func8.symm.trans b)).symm;exact⟨by kernel_rfl,fun j t c=>by
    rw[Tryz.params8]at c;have a:((Tryz.f8.params).toList.all fun t=>Tryz.prog.wantsStandIn t==false)=true:=by kernel_rfl
    rw[Tryz.params8]at a;have:=List.all_eq_true.1 a t (qo (i:=j) (by rw[Array.getElem?_toList];exact c))
    exact beq_iff_eq.1 this⟩)
  (by kernel_rfl)
#print axioms proved
end Go.Proofs.YtcholkmididfmaaGreatDoor.holdPicks

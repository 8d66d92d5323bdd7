import Derived.Test.YtcholkmididfmaaGreatDoorSa
set_option linter.unusedVariables false
set_option linter.unusedSimpArgs false
namespace Go.Proofs.Y
open Go.RowKit Go.Am
def fr:List Nat:=[16,18,19,21,30,31,49,50,51,52,53,54,57,58,33,68,81,82,83,84,85,87,88,89,71,72,73,32,95,96,97,98,99,123,125,126,127,128,43,44,147,148,153,107]
def Fy(f:FuncId):Pol:=if Nat.beq f 11 then .pure else if fr.any (Nat.beq f)then .fresh else .keep
noncomputable def SR:bh:=St Fy []
noncomputable def b15:Code:=Tryz.f12.body.getD .skip
noncomputable def NO:List Code:=(flat b15 []).take 7
noncomputable def G1:List Code:=(flat b15 []).drop 8
noncomputable def Ao:Code:=match List.drop 7 (flat b15 [])with
 |Code.block _ (Code.loop b)::_=>b
 |_=>.skip
theorem JO:flat b15 []=NO++(.block 0 (.loop Ao)::G1):=by kernel_rfl
noncomputable def st0:StA:=(Ns::i 5000::List.replicate (Tryz.f12.ntmps-2) bz,[])
def bp(k:Nat):Prop:=jB SR HT0 100000 [Ao] [1,7,8,9] (LP k) (st k)=some (.normal,st (k+1))
end Go.Proofs.Y

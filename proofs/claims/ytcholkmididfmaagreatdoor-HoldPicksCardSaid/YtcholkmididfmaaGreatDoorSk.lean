import Derived.Shelf.Strings.Builder1
import Derived.Shelf.LaysM
import Derived.Shelf.Strconv.Itoa4
import Derived.Test.YtcholkmididfmaaGreatDoorProg
import Derived.WalkKit
import Derived.BigCall
import Derived.Test.YtcholkmididfmaaGreatDoorLib6
import Derived.Lib.ItoaLen
import Derived.Lib.Walk
import Derived.Test.YtcholkmididfmaaGreatDoorRows
import Derived.RowKitTokens
import Derived.LaidLaws
import Derived.LaidHandle
import Derived.KernelRfl
set_option linter.unusedVariables false
set_option linter.unusedSimpArgs false
namespace Go.Proofs
open Go.Shelf
def Tryz.lays169_ren:Go.Shelf.Ren:=⟨fun|169=>45|n=>n,fun|70=>82|9=>9|0=>0|72=>85|37=>83|127=>133|3=>3|5=>5|n=>n,fun|n=>n⟩
theorem Tryz.lays169:Go.Proofs.Lays.n169 Tryz.prog Tryz.lays169_ren:={
 mixed:=by kernel_rfl
 f169:=Tryz.func45.trans (congrArg some (by kernel_rfl))
 t0:=Tryz.underlying0
 a0:=Tryz.isAgg0
 z0:=Tryz.sizeOf0
 v0:=Tryz.zeroValue0
 t3:=Tryz.underlying3
 a3:=Tryz.isAgg3
 z3:=Tryz.sizeOf3
 v3:=Tryz.zeroValue3
 t9:=Tryz.underlying9
 a9:=Tryz.isAgg9
 z9:=Tryz.sizeOf9
 v9:=Tryz.zeroValue9
 t37:=Tryz.underlying83
 a37:=Tryz.isAgg83
 z37:=Tryz.sizeOf83
 v37:=Tryz.zeroValue83
 t70:=Tryz.underlying82
 a70:=Tryz.isAgg82
 z70:=Tryz.sizeOf82
 v70:=Tryz.zeroValue82
 t72:=Tryz.underlying85
 a72:=Tryz.isAgg85
 z72:=Tryz.sizeOf85
 v72:=Tryz.zeroValue85
 t127:=Tryz.underlying133
 a127:=Tryz.isAgg133
 z127:=Tryz.sizeOf133
 v127:=Tryz.zeroValue133 }
theorem Tryz.Builder_Extra_169:Builder.Extra Tryz.prog Tryz.lays169_ren:={
 sizeBuilder:=by kernel_rfl
 liesBuilder:=by kernel_rfl
 t5:=Tryz.underlying5
 a5:=Tryz.isAgg5
 z5:=Tryz.sizeOf5
 v5:=Tryz.zeroValue5
 infoByte:=by kernel_rfl
 cellsByte:=by kernel_rfl
 sizeByte:=by kernel_rfl
 neB5:=by decide }
open Go.RowKit in
theorem Tryz.Builder_String_any(B b:Nat)(l:List UInt8)(w:World)(h:Lib.IsBuilder 85 5 B b (Lib.byteCells l) w)(a:B≤w.heap.size):
 Calls Tryz.prog 45 #[.pointer (some ⟨b,0,none⟩)] w fun e w'=>e= .returned (.string ⟨l.toArray⟩)∧Below B w w':=Any.Builder_String_any Tryz.lays169 Tryz.Builder_Extra_169 B b l w h a
def Tryz.laysM171_ren:Go.Shelf.Ren:=⟨fun|171=>43|243=>80|246=>79|283=>115|284=>116|285=>117|286=>118|129=>111|317=>140|318=>141|319=>142|320=>143|337=>155|338=>156|n=>n,fun|3=>3|9=>9|2=>2|4=>4|171=>171|0=>0|53=>134|37=>83|5=>5|173=>173|212=>207|51=>164|20=>20|213=>208|46=>33|232=>227|233=>228|n=>n,fun|17=>11|18=>12|19=>13|n=>n⟩
theorem Tryz.laysM171:Go.Proofs.LaysM.n171 Tryz.prog Tryz.laysM171_ren:={
 mixed:=by kernel_rfl
 f129:=Tryz.func111.trans (congrArg some (by kernel_rfl))
 f171:=Tryz.func43.trans (congrArg some (by kernel_rfl))
 f243:=Tryz.func80.trans (congrArg some (by kernel_rfl))
 f246:=Tryz.func79.trans (congrArg some (by kernel_rfl))
 f283:=Tryz.func115.trans (congrArg some (by kernel_rfl))
 f284:=Tryz.func116.trans (congrArg some (by kernel_rfl))
 f285:=Tryz.func117.trans (congrArg some (by kernel_rfl))
 f286:=Tryz.func118.trans (congrArg some (by kernel_rfl))
 f317:=Tryz.func140.trans (congrArg some (by kernel_rfl))
 f318:=Tryz.func141.trans (congrArg some (by kernel_rfl))
 f319:=Tryz.func142.trans (congrArg some (by kernel_rfl))
 f320:=Tryz.func143.trans (congrArg some (by kernel_rfl))
 f337:=Tryz.func155.trans (congrArg some (by kernel_rfl))
 f338:=Tryz.func156.trans (congrArg some (by kernel_rfl))
 t0:=Tryz.underlying0
 a0:=Tryz.isAgg0
 z0:=Tryz.sizeOf0
 v0:=Tryz.zeroValue0
 t2:=Tryz.underlying2
 a2:=Tryz.isAgg2
 z2:=Tryz.sizeOf2
 v2:=Tryz.zeroValue2
 t3:=Tryz.underlying3
 a3:=Tryz.isAgg3
 z3:=Tryz.sizeOf3
 v3:=Tryz.zeroValue3
 t4:=Tryz.underlying4
 a4:=Tryz.isAgg4
 z4:=Tryz.sizeOf4
 v4:=Tryz.zeroValue4
 t5:=Tryz.underlying5
 a5:=Tryz.isAgg5
 z5:=Tryz.sizeOf5
 v5:=Tryz.zeroValue5
 t9:=Tryz.underlying9
 a9:=Tryz.isAgg9
 z9:=Tryz.sizeOf9
 v9:=Tryz.zeroValue9
 t20:=Tryz.underlying20
 a20:=Tryz.isAgg20
 z20:=Tryz.sizeOf20
 v20:=Tryz.zeroValue20
 t37:=Tryz.underlying83
 a37:=Tryz.isAgg83
 z37:=Tryz.sizeOf83
 v37:=Tryz.zeroValue83
 t46:=Tryz.underlying33
 a46:=Tryz.isAgg33
 z46:=Tryz.sizeOf33
 v46:=Tryz.zeroValue33
 t51:=Tryz.underlying164
 a51:=Tryz.isAgg164
 z51:=Tryz.sizeOf164
 v51:=Tryz.zeroValue164
 t53:=Tryz.underlying134
 a53:=Tryz.isAgg134
 z53:=Tryz.sizeOf134
 v53:=Tryz.zeroValue134
 t171:=Tryz.underlying171
 a171:=Tryz.isAgg171
 z171:=Tryz.sizeOf171
 v171:=Tryz.zeroValue171
 t173:=Tryz.underlying173
 a173:=Tryz.isAgg173
 z173:=Tryz.sizeOf173
 v173:=Tryz.zeroValue173
 t212:=Tryz.underlying207
 a212:=Tryz.isAgg207
 z212:=Tryz.sizeOf207
 v212:=Tryz.zeroValue207
 t213:=Tryz.underlying208
 a213:=Tryz.isAgg208
 z213:=Tryz.sizeOf208
 t232:=Tryz.underlying227
 a232:=Tryz.isAgg227
 z232:=Tryz.sizeOf227
 v232:=Tryz.zeroValue227
 t233:=Tryz.underlying228
 a233:=Tryz.isAgg228
 z233:=Tryz.sizeOf228
 v233:=Tryz.zeroValue228
 g17:=by kernel_rfl
 g18:=by kernel_rfl
 g19:=by kernel_rfl
 i0:=by kernel_rfl
 i2:=by kernel_rfl
 i3:=by kernel_rfl
 i4:=by kernel_rfl
 i5:=by kernel_rfl
 i9:=by kernel_rfl
 i20:=by kernel_rfl
 i37:=by kernel_rfl
 i46:=by kernel_rfl
 i51:=by kernel_rfl
 i53:=by kernel_rfl
 i171:=by kernel_rfl
 i173:=by kernel_rfl
 i212:=by kernel_rfl
 i232:=by kernel_rfl
 i233:=by kernel_rfl
 m17:=by kernel_rfl
 m18:=by kernel_rfl
 m19:=by kernel_rfl }
open Go.RowKit Go.Sort Go.Lib in
theorem Tryz.strconv_Itoa(n:Int)(b: -9223372036854775808≤n)(h1:n≤9223372036854775807)(w:World)(a:Lib.TabIs Tryz.prog w "internal/strconv.uint64pow10" .u64 Lib.pow10Tab):
 Calls Tryz.prog 43 #[.int .i64 n] w fun e w'=>e= .returned (.string ⟨(Lib.itoa n).toArray⟩)∧∃k os,w'=grow (w.drewN k) os:=Any.strconv_Itoa Tryz.laysM171 n b h1 w a
def Tryz.laysM173_ren:Go.Shelf.Ren:=⟨fun|173=>41|246=>79|283=>115|284=>116|285=>117|286=>118|129=>111|317=>140|318=>141|319=>142|320=>143|337=>155|338=>156|n=>n,fun|2=>2|3=>3|9=>9|4=>4|171=>171|0=>0|53=>134|37=>83|5=>5|173=>173|212=>207|51=>164|20=>20|213=>208|46=>33|232=>227|233=>228|n=>n,fun|17=>11|18=>12|19=>13|n=>n⟩
theorem Tryz.laysM173:Go.Proofs.LaysM.n173 Tryz.prog Tryz.laysM173_ren:={
 mixed:=by kernel_rfl
 f129:=Tryz.func111.trans (congrArg some (by kernel_rfl))
 f173:=Tryz.func41.trans (congrArg some (by kernel_rfl))
 f246:=Tryz.func79.trans (congrArg some (by kernel_rfl))
 f283:=Tryz.func115.trans (congrArg some (by kernel_rfl))
 f284:=Tryz.func116.trans (congrArg some (by kernel_rfl))
 f285:=Tryz.func117.trans (congrArg some (by kernel_rfl))
 f286:=Tryz.func118.trans (congrArg some (by kernel_rfl))
 f317:=Tryz.func140.trans (congrArg some (by kernel_rfl))
 f318:=Tryz.func141.trans (congrArg some (by kernel_rfl))
 f319:=Tryz.func142.trans (congrArg some (by kernel_rfl))
 f320:=Tryz.func143.trans (congrArg some (by kernel_rfl))
 f337:=Tryz.func155.trans (congrArg some (by kernel_rfl))
 f338:=Tryz.func156.trans (congrArg some (by kernel_rfl))
 t0:=Tryz.underlying0
 a0:=Tryz.isAgg0
 z0:=Tryz.sizeOf0
 v0:=Tryz.zeroValue0
 t2:=Tryz.underlying2
 a2:=Tryz.isAgg2
 z2:=Tryz.sizeOf2
 v2:=Tryz.zeroValue2
 t3:=Tryz.underlying3
 a3:=Tryz.isAgg3
 z3:=Tryz.sizeOf3
 v3:=Tryz.zeroValue3
 t4:=Tryz.underlying4
 a4:=Tryz.isAgg4
 z4:=Tryz.sizeOf4
 v4:=Tryz.zeroValue4
 t5:=Tryz.underlying5
 a5:=Tryz.isAgg5
 z5:=Tryz.sizeOf5
 v5:=Tryz.zeroValue5
 t9:=Tryz.underlying9
 a9:=Tryz.isAgg9
 z9:=Tryz.sizeOf9
 v9:=Tryz.zeroValue9
 t20:=Tryz.underlying20
 a20:=Tryz.isAgg20
 z20:=Tryz.sizeOf20
 v20:=Tryz.zeroValue20
 t37:=Tryz.underlying83
 a37:=Tryz.isAgg83
 z37:=Tryz.sizeOf83
 v37:=Tryz.zeroValue83
 t46:=Tryz.underlying33
 a46:=Tryz.isAgg33
 z46:=Tryz.sizeOf33
 v46:=Tryz.zeroValue33
 t51:=Tryz.underlying164
 a51:=Tryz.isAgg164
 z51:=Tryz.sizeOf164
 v51:=Tryz.zeroValue164
 t53:=Tryz.underlying134
 a53:=Tryz.isAgg134
 z53:=Tryz.sizeOf134
 v53:=Tryz.zeroValue134
 t171:=Tryz.underlying171
 a171:=Tryz.isAgg171
 z171:=Tryz.sizeOf171
 v171:=Tryz.zeroValue171
 t173:=Tryz.underlying173
 a173:=Tryz.isAgg173
 z173:=Tryz.sizeOf173
 v173:=Tryz.zeroValue173
 t212:=Tryz.underlying207
 a212:=Tryz.isAgg207
 z212:=Tryz.sizeOf207
 v212:=Tryz.zeroValue207
 t213:=Tryz.underlying208
 a213:=Tryz.isAgg208
 z213:=Tryz.sizeOf208
 t232:=Tryz.underlying227
 a232:=Tryz.isAgg227
 z232:=Tryz.sizeOf227
 v232:=Tryz.zeroValue227
 t233:=Tryz.underlying228
 a233:=Tryz.isAgg228
 z233:=Tryz.sizeOf228
 v233:=Tryz.zeroValue228
 g17:=by kernel_rfl
 g18:=by kernel_rfl
 g19:=by kernel_rfl
 i0:=by kernel_rfl
 i2:=by kernel_rfl
 i3:=by kernel_rfl
 i4:=by kernel_rfl
 i5:=by kernel_rfl
 i9:=by kernel_rfl
 i20:=by kernel_rfl
 i37:=by kernel_rfl
 i46:=by kernel_rfl
 i51:=by kernel_rfl
 i53:=by kernel_rfl
 i171:=by kernel_rfl
 i173:=by kernel_rfl
 i212:=by kernel_rfl
 i232:=by kernel_rfl
 i233:=by kernel_rfl
 m17:=by kernel_rfl
 m18:=by kernel_rfl
 m19:=by kernel_rfl }
open Go.RowKit Go.Sort Go.Lib in
theorem Tryz.strconv_FormatInt_10(n:Int)(b: -9223372036854775808≤n)(h1:n≤9223372036854775807)(w:World)(a:Lib.TabIs Tryz.prog w "internal/strconv.uint64pow10" .u64 Lib.pow10Tab):
 Calls Tryz.prog 41 #[.int .i64 n,.int .i64 10] w fun e w'=>e= .returned (.string ⟨(Lib.itoa n).toArray⟩)∧∃k os,w'=grow (w.drewN k) os:=Any.strconv_FormatInt_10 Tryz.laysM173 n b h1 w a
end Go.Proofs
namespace Go.Proofs.Y
open Go.RowKit
theorem sizeBuilder:(Tryz.prog.info? 85).map (·.size)=some 2:=by kernel_rfl
theorem liesBuilder:liesAt Tryz.prog Tryz.prog.depth 85 (2/Tryz.prog.cellsOf 85) 0 85 1=true:=by kernel_rfl
theorem infoByte:(Tryz.prog.info? 5).map (fun i=>(i.zero,i.size,i.bytes))=some (some (Value.int IntKind.u8 0),1,1):=by kernel_rfl
def Kept(b:Nat)(w w':World):Prop:=w.heap.size≤w'.heap.size∧∀k,k<w.heap.size→k≠b→(∀cur fr,w.heap[k]?≠some (.cells cur 5 fr))→w'.heap[k]?=w.heap[k]?
theorem Kept.refl(b:Nat)(w:World):Kept b w w:=⟨Nat.le_refl _,fun _ _ _ _=>rfl⟩
theorem Kept.trans{b:Nat}{w w1 w2:World}(h:Kept b w w1)(k:Kept b w1 w2):Kept b w w2:=
 ⟨Nat.le_trans h.1 k.1,fun j a c d=>by
  have e:=h.2 j a c d;rw[k.2 j (Nat.lt_of_lt_of_le a h.1) c (by grind),e]⟩
theorem Kept.setCell(b o:Nat)(w:World)(v:Value):Kept b w (w.setCell ⟨b,o,none⟩ v):=⟨by simp,fun j _ a _=>Below.heap_setCell _ _ _ _ a⟩
theorem Kept.alloc(b:Nat)(w:World)(o:Obj):Kept b w (w.alloc o):=⟨by simp,fun j a _ _=>Lib.alloc_old w _ j a⟩
theorem Kept.grown{b:Nat}{w w':World}{B:Nat}{v:Value}{n:Nat}{xs:List Value}(d:w.ownsRow B 5 1 v n xs)(a:w.grownBy w' v.ownBlock):Kept b w w':=
 ⟨a.size,fun j c _ h=>a.block j c fun e=>by
  obtain⟨_,⟨rfl,_⟩|⟨g,cap,cur,rfl,_,f,_⟩⟩:=d
  ·cases e
  ·obtain rfl:g=j:=by simpa[Value.ownBlock]using e.symm
   grind⟩
set_option maxHeartbeats 1000000 in
set_option maxRecDepth 100000 in
theorem sf(b:Nat)(w:World)(c:w.cell? ⟨b,0,none⟩=some (.pointer (some ⟨b,0,none⟩))):
 Calls Tryz.prog 78 #[.pointer (some ⟨b,0,none⟩)] w fun e w'=>e= .returned (.tuple #[])∧w'=w:=by
 obtain⟨j,a,_⟩:=Option.map_eq_some_iff.1 sizeBuilder
 go_wp2
 rw[Lib.run_neq_ptr_same w _ Tryz.underlying82 a]
 go_wp2
 go_end0
 grind
set_option maxHeartbeats 1000000 in
set_option maxRecDepth 100000 in
theorem pz(b:Nat)(w:World)(g:w.cell? ⟨b,0,none⟩=some (.pointer none))(a:w.shape? b=some (85,2))(f:w.frozen? ⟨b,0,none⟩=false):
 Calls Tryz.prog 78 #[.pointer (some ⟨b,0,none⟩)] w fun e w'=>e= .returned (.tuple #[])∧w'=w.setCell ⟨b,0,none⟩ (.pointer (some ⟨b,0,none⟩)):=by
 obtain⟨j,c,d⟩:=Option.map_eq_some_iff.1 sizeBuilder
 go_wp2
 rw[Lib.run_to_unsafe w ⟨b,0,none⟩ Tryz.underlying82 Tryz.underlying169 c (by grind) a (Nat.zero_lt_succ 1)]
 simp;go_wp2
 rw[run_callFunc_extern Tryz.func114 (by kernel_rfl) (by kernel_rfl) (by kernel_rfl) (e:=Extern.AbiNoEscape.same) (by kernel_rfl)]
 rw[Lib.run_noEscape];simp;go_wp2
 rw[Lib.run_from_unsafe w ⟨b,0,none⟩ Tryz.underlying169 Tryz.underlying82 c a liesBuilder];simp;go_wp2
 go_end0
 grind
theorem ti(B b:Nat)(a:List Value)(w:World)(h:Lib.IsBuilder 85 5 B b a w):
 Calls Tryz.prog 78 #[.pointer (some ⟨b,0,none⟩)] w fun e w'=>e= .returned (.tuple #[])∧(Lib.BuilderAt 85 5 B b (.pointer (some ⟨b,0,none⟩)) a w'∧Below B w w'∧Kept b w w'):=by
 rcases h with h|h
 ·refine(pz b w h.cell0 h.shape h.frozen0).mono ?_;rintro e w' ⟨rfl,rfl⟩;exact⟨rfl,h.used _,(Below.refl B w).setCell (p:=⟨b,0,none⟩) h.1 _,Kept.setCell _ _ _ _⟩
 ·refine(sf b w h.cell0).mono ?_;rintro e w' ⟨rfl,rfl⟩;exact⟨rfl,h,Below.refl B _,Kept.refl _ _⟩
set_option maxHeartbeats 1000000 in
set_option maxRecDepth 100000 in
theorem Df(B b:Nat)(m:List Value)(c:Int)(w:World)(h:Lib.IsBuilder 85 5 B b m w)(E:m.length+1≤140737488355328)(L:B≤w.heap.size):
 Calls Tryz.prog 42 #[.pointer (some ⟨b,0,none⟩),.int .u8 c] w fun e w'=>e= .returned .nilIface∧(Lib.BuilderAt 85 5 B b (.pointer (some ⟨b,0,none⟩)) (m++[.int .u8 c]) w'∧Below B w w'∧Kept b w w'):=by
 obtain⟨I,J,x,y,z⟩:=info_parts infoByte;have G:∀args w,(callFunc 78 args).run Tryz.prog w= .ok (.enter 78 args) w:=enters_of Tryz.func78 (by kernel_rfl) rfl
 go_enter Tryz.func42,Tryz.ntmps42
 go_wp2_with (go_at_fn 78;refine(ti B b m _ h).mono ?_)
 rintro e w1 ⟨rfl,h1,n,t⟩;obtain⟨D,v,o,f,A⟩:=h1;have C:w1.cell? ⟨b,1,none⟩=some v:=by rw[Lib.cell_of_heap o];rfl
 go_wp2_with (at_builtin;refine wpList_append_own _ rfl _ _ 83 rfl B 5 I (.int .u8 0) 1 1 Tryz.underlying83 J x y z rfl (by decide) _ _ _ rfl (f.alloc _) ⟨w1.heap.size,0,none⟩ 1 1 [.int .u8 c] rfl rfl ?C ?c2 ?c3 ?c4 ?c5 ?_)
 case C=>
  intro j u q
  match j,q with
  |0,q=>simp at q;subst q;simp[Addr.add]
 case c2=>intro u hu;simp at hu;subst hu;rfl
 case c3=>unfold maxLen;omega
 case c4=>omega
 case c5=>have:=n.size;simp;omega
 intro H w2 d a _;have s:b<w1.heap.size:=by
  grind
 have l:w2.heap[b]?=some (.cells #[.pointer (some ⟨b,0,none⟩),v] 85 (0,0)):=by
  rw[a.block b (by simp;omega) (fun e=>A e.symm),Lib.alloc_old w1 _ b s]
  exact o
 have M:w2.cell? ⟨b,1,none⟩=some v:=by rw[Lib.cell_of_heap l];rfl
 have N:w2.frozen? ⟨b,1,none⟩=false:=Lib.frozen_of_heap l 1;obtain⟨g,cap,rfl⟩:∃g cap,H= .slice (some ⟨g,0,none⟩) (m.length+1) cap:=by
  rcases d.2 with⟨_,O⟩|⟨g,cap,cur,P,_⟩
  all_goals grind
 go_wp2
 go_ret
 refine⟨rfl, ?_, ?_,(t.trans ((Kept.alloc _ _ _).trans (Kept.grown (f.alloc _) a))).trans (Kept.setCell _ _ _ _)⟩
 ·exact Lib.BuilderAt.put (T:=85) (e:=5) D l (bs':=m++[.int .u8 c]) (by simpa using d) (by decide)
 ·exact((n.alloc (by grind) _).grown a (by simp;omega) (fun k K=>(f.lt k K).1)).setCell (p:=⟨b,1,none⟩) D _
set_option maxHeartbeats 2000000 in
set_option maxRecDepth 100000 in
theorem oU(B b:Nat)(l:List Value)(s:ByteArray)(w:World)(h:Lib.IsBuilder 85 5 B b l w)(C:l.length+s.size≤140737488355328)(K:B≤w.heap.size):
 Calls Tryz.prog 40 #[.pointer (some ⟨b,0,none⟩),.string s] w fun e w'=>e= .returned (.tuple #[.int .i64 s.size,.nilIface])∧(Lib.BuilderAt 85 5 B b (.pointer (some ⟨b,0,none⟩)) (l++Lib.strCells s) w'∧Below B w w'∧Kept b w w'):=by
 obtain⟨G,H,q,t,u⟩:=info_parts infoByte;have D:∀args w,(callFunc 78 args).run Tryz.prog w= .ok (.enter 78 args) w:=enters_of Tryz.func78 (by kernel_rfl) rfl
 go_enter Tryz.func40,Tryz.ntmps40
 go_wp2_with (go_at_fn 78;refine(ti B b l _ h).mono ?_)
 rintro e w1 ⟨rfl,h1,n,o⟩;obtain⟨y,v,j,d,x⟩:=h1;have L:w1.cell? ⟨b,1,none⟩=some v:=by rw[Lib.cell_of_heap j];rfl
 go_wp2_with (at_builtin;refine Lib.wpList_append_own_string _ rfl _ _ 83 9 rfl B 5 G Tryz.underlying83 Tryz.underlying9 H q t u _ _ _ rfl d s rfl ?c3 ?c4 ?c5 ?_)
 case c3=>unfold maxLen;omega
 case c4=>omega
 case c5=>grind
 intro E w2 c a _;have m:b<w1.heap.size:=by
  grind
 have f:w2.heap[b]?=some (.cells #[.pointer (some ⟨b,0,none⟩),v] 85 (0,0)):=by
  rw[a.block b m (fun e=>x e.symm)]
  exact j
 have M:w2.cell? ⟨b,1,none⟩=some v:=by rw[Lib.cell_of_heap f];rfl
 have N:w2.frozen? ⟨b,1,none⟩=false:=Lib.frozen_of_heap f 1;obtain⟨z,A,cap,rfl⟩:∃z A cap,E= .slice z A cap:=by
  rcases c.2 with⟨I,_⟩|⟨g,cap,cur,I,_⟩
  all_goals grind
 go_wp2
 go_ret2
 refine⟨rfl, ?_, ?_,(o.trans (Kept.grown d a)).trans (Kept.setCell _ _ _ _)⟩
 ·exact Lib.BuilderAt.put (T:=85) (e:=5) y f (bs':=l++Lib.strCells s) (by simpa[Lib.strCells_length]using c) (by decide)
 ·exact(n.grown a (by grind) (fun k J=>(d.lt k J).1)).setCell (p:=⟨b,1,none⟩) y _
end Go.Proofs.Y
namespace Go.Proofs.Y
open Go.RowKit Go.Am
structure yN where
 logs:List (List Int)
 words:List Int
 owners:List Int
 status:List Int
 queues:List (List Int)
def dM(l:List Int):List UInt8:=(l.map fun n=>32::Lib.itoa n).flatten
def dI(head:List UInt8)(l:List Int):List UInt8:=head++(dM l++[10])
def vc:List UInt8:=[116,104,114,101,97,100,32]
def wD:List UInt8:=[113,117,101,117,101,32]
def gZ:List UInt8:=[119,111,114,100,115]
def ownB:List UInt8:=[111,119,110,101,114,115]
def yq(logs:List (List Int))(t:Nat)(s:Int):List UInt8:=dI (vc++Lib.itoa t++[58,32]++Lib.itoa s) (logs.getD t [])
def pq(logs:List (List Int)):Nat→List Int→List UInt8
 |_,[]=>[]
 |t,s::ss=>yq logs t s++pq logs (t+1) ss
def jU:Nat→List (List Int)→List UInt8
 |_,[]=>[]
 |c,q::qs=>dI (wD++Lib.itoa c) q++jU (c+1) qs
def jX(o:yN):List UInt8:=pq o.logs 0 o.status++(dI gZ o.words++(dI ownB o.owners++jU 0 o.queues))
def okB(n:Int):Bool:=decide (-9223372036854775808≤n) && decide (n≤9223372036854775807)
def fD(l:List Int):Bool:=Nat.ble l.length 1000 && l.all okB
def Ir(o:yN):Bool:=Nat.ble o.logs.length 1000 && o.logs.all fD && fD o.words && fD o.owners && fD o.status && Nat.ble o.queues.length 1000 && o.queues.all fD
variable {n:Int}
theorem qC(h:okB n=true): -9223372036854775808≤n∧n≤9223372036854775807:=by
 simpa[okB]using h
variable {l:List Int}
theorem eM(h:fD l=true):l.length≤1000∧∀n∈l,okB n=true:=by
 simpa[fD]using h
structure EG(o:yN):Prop where
 logs:o.logs.length≤1000∧∀l∈o.logs,fD l=true
 words:fD o.words=true
 owners:fD o.owners=true
 status:fD o.status=true
 queues:o.queues.length≤1000∧∀l∈o.queues,fD l=true
variable {o:yN}
theorem Ik(h:Ir o=true):EG o:=by
 simp only[Ir,qi,Nat.ble_eq,List.all_eq_true]at h;obtain⟨⟨⟨⟨⟨⟨h1,a⟩,b⟩,c⟩,d⟩,e⟩,f⟩:=h;exact⟨⟨h1,a⟩,b,c,d,⟨e,f⟩⟩
theorem fX(h:okB n=true):(Lib.itoa n).length≤21:=by
 obtain⟨a,h1⟩:=qC h;exact Lib.itoa_length_le n a h1
theorem xq:∀{l:List Int},(∀n∈l,okB n=true)→(dM l).length≤22*l.length
 | [],_=>by simp[dM]
 |n::l,h=>by
  have h1:=fX (h n (by simp))
  have b:=xq (l:=l) (fun m a=>h m (by simp[a]))
  have e:dM (n::l)=(32::Lib.itoa n)++dM l:=rfl;grind
theorem mS{head:List UInt8}(h:fD l=true):(dI head l).length≤head.length+22001:=by
 obtain⟨h1,a⟩:=eM h;have:=xq a;simp only[dI,qn,qm,List.length_nil];omega
theorem n6{t:Nat}(h:t≤2000):okB (t:Int)=true:=by
 simp only[okB,qi,decide_eq_true_eq];omega
theorem HY{logs:List (List Int)}(h:∀l∈logs,fD l=true)(t:Nat):fD (logs.getD t [])=true:=by
 rw[qh];cases e:logs[t]? with
 |none=>rfl
 |some l=>grind
theorem xS{logs:List (List Int)}(hl:∀l∈logs,fD l=true):∀{ss:List Int} {t:Nat},(∀s∈ss,okB s=true)→t+ss.length≤2000→(pq logs t ss).length≤23000*ss.length
 | [],t,_,_=>by simp[pq]
 |s::ss,t,h,e=>by
  have h1:=xS hl (ss:=ss) (t:=t+1) (fun m b=>h m (by simp[b])) (by grind)
  have a:=mS (head:=vc++Lib.itoa t++[58,32]++Lib.itoa s) (HY hl t);have c:=fX (h s (by simp))
  have d:=fX (n6 (t:=t) (by grind))
  simp only[pq,yq,qn,qm,vc,List.length_nil]at a ⊢;omega
theorem xy:∀{qs:List (List Int)} {c:Nat},(∀l∈qs,fD l=true)→c+qs.length≤2000→(jU c qs).length≤23000*qs.length
 | [],c,_,_=>by simp[jU]
 |q::qs,c,h,hc=>by
  have h1:=xy (qs:=qs) (c:=c+1) (fun m b=>h m (by simp[b])) (by grind)
  have a:=mS (head:=wD++Lib.itoa c) (h q (by simp))
  have d:=fX (n6 (t:=c) (by grind))
  simp only[jU,qn,qm,wD,List.length_nil]at a ⊢;omega
theorem Do(h:EG o):(jX o).length≤50000000:=by
 have h1:=xS (t:=0) h.logs.2 (eM h.status).2 (by have:=(eM h.status).1;omega)
 have a:=mS (head:=gZ) h.words;have b:=mS (head:=ownB) h.owners;have d:=xy (c:=0) h.queues.2 (by have:=h.queues.1;omega)
 have e:=(eM h.status).1;have f:=h.queues.1;simp only[jX,qn,gZ,ownB,qm,List.length_nil]at a b ⊢;omega
end Go.Proofs.Y
namespace Go.Proofs.Y
open Go.RowKit Go.Am
theorem HS:(Tryz.prog.info? 2).map (fun i=>(i.zero,i.size,i.bytes))=some (some (Value.int IntKind.i64 0),1,8):=by kernel_rfl
def rR(B b:Nat)(w:World)(v:Value)(l:List Int):Prop:=
 ∃c cap,v= .slice c l.length cap∧(l≠[]→∃a o,c=some ⟨a,o,none⟩∧a<w.heap.size∧At w a o (l.map (Value.int .i64))∧(a<B∨(a≠b∧∀cur fr,w.heap[a]?≠some (.cells cur 5 fr))))
variable {B:Nat}{l:List Int}{v:Value}{w:World}
theorem rR.kept{b:Nat}{w':World}(m:Below B w w')(g:Kept b w w')(h:rR B b w v l):rR B b w' v l:=by
 obtain⟨j,cap,e,h⟩:=h;refine⟨j,cap,e,fun hl=>?_⟩
 obtain⟨c,o,h1,d,f,a⟩:=h hl;refine⟨c,o,h1,Nat.lt_of_lt_of_le d g.1, ?_⟩;rcases a with a|⟨a,k⟩
 ·exact⟨f.of_block (m.block _ a),.inl a⟩
 ·have e:=g.2 c d a k;exact⟨f.of_block e,.inr ⟨a,by grind⟩⟩
theorem _root_.Go.Am.IntsAt.toK{a:World}(h:IntsAt a v l)(d:Below a.heap.size a w)(k:a.heap.size≤B)(b:Nat):rR B b w v l:=by
 obtain⟨f,cap,e,h⟩:=h;refine⟨f,cap,e,fun hl=>?_⟩
 obtain⟨g,o,h1,c,j⟩:=h hl;exact⟨g,o,h1,Nat.lt_of_lt_of_le c d.size,j.of_block (d.block _ c),.inl (by omega)⟩
theorem xE{base:Nat}(h:w.ownsRow base 2 1 v l.length (l.map (Value.int .i64)))(B b:Nat)(f:b<base):rR B b w v l:=by
 obtain⟨hl,⟨rfl,c⟩|⟨g,cap,cur,rfl,k,d,_,_,m,n⟩⟩:=h
 ·obtain rfl:=List.eq_nil_of_length_eq_zero c;exact⟨none,0,rfl,fun h=>absurd rfl h⟩
 ·refine⟨_,cap,rfl,fun _=>⟨g,0,rfl, ?_,fun j u o=>?_,.inr ⟨by omega,fun a fr e=>by grind⟩⟩⟩
  ·grind
  ·rw[Lib.cell_of_heap d,Nat.zero_add];grind
set_option maxHeartbeats 4000000 in
set_option maxRecDepth 1000000 in
theorem tz(v:Value)(l:List Int)(w:World)(h:IntsAt w v l)(hl:l.length≤1000):
 Calls Tryz.prog 44 #[v] w fun e w'=>∃u,e= .returned u∧(∀B b,b<w.heap.size→rR B b w' u l)∧Below w.heap.size w w':=by
 obtain⟨E,G,t,x,y⟩:=info_parts HS;obtain⟨K,cap,rfl,H⟩:=h
 go_wp2
 go_loopw [3,8] (fun v i wr=>∃k:Nat,k≤l.length∧i= .int .i64 k∧wr.ownsRow w.heap.size 2 1 v k ((l.take k).map (Value.int .i64))∧Below w.heap.size w wr) (fun _ i _=>l.length-(intOf i).toNat)
 case atStart=>exact⟨0,Nat.zero_le _,rfl,World.ownsRow_nil _ _ _ _,Below.refl _ _⟩
 case round=>
  obtain⟨k,C,rfl,a,g⟩:=hrel;have m:w.heap.size≤wr.heap.size:=g.size
  by_cases c:k<l.length
  ·obtain⟨B,o,rfl,I,z⟩:=H (by grind)
   have D:l[k]?=some l[k]:=List.getElem?_eq_getElem c;have p:l.take (k+1)=l.take k++[l[k]]:=List.take_succ_eq_append_getElem c;generalize l[k]=n at D p;have hc:wr.cell? ⟨B,o+k,none⟩=some (.int .i64 n):=by
    rw[World.cell?_of_block (w:=w) (g.block B I)];exact z k _ (by grind)
   go_wp2_with (at_builtin;refine wpList_append_own _ rfl _ _ 26 rfl w.heap.size 2 E (.int .i64 0) 1 8 Tryz.underlying26 G t x y rfl (by decide) _ _ _ rfl (a.alloc _) ⟨wr.heap.size,0,none⟩ 1 1 [.int .i64 n] rfl rfl ?c1 ?c2 ?c3 ?c4 ?c5 ?_)
   case c1=>
    intro j u f
    match j,f with
    |0,f=>simp at f;subst f;simp[Addr.add]
   case c2=>intro u hu;simp at hu;subst hu;rfl
   case c3=>unfold maxLen;omega
   case c4=>omega
   case c5=>simp;omega
   intro J w1 s d _;have q:Below w.heap.size w w1:=(g.alloc m _).grown d (by simp;omega) (fun j f=>(a.lt j f).1)
   go_wp2
   go_roundw
   case rel=>exact⟨k+1,c,by simp,by simp_all,q⟩
   case measure=>
    simp only[RowKit.intOf];omega
  ·have C:k=l.length:=by omega
   subst C;go_wp2
   go_ret
   rw[List.take_length]at a;exact⟨_,rfl,fun B b A=>xE a B b A,g⟩
end Go.Proofs.Y
namespace Go.Proofs.Y
open Go.RowKit Go.Am
def Tab(w:World):Prop:=Lib.TabIs Tryz.prog w "internal/strconv.uint64pow10" .u64 Lib.pow10Tab
variable {w w':World}
theorem Tab.below(c:Below w.heap.size w w')(h:Tab w):Tab w':=by
 unfold Tab Lib.TabIs at*;unfold World.var? at*;rw[Option.bind_eq_some_iff]at h ⊢;obtain⟨g,b,h⟩:=h;refine⟨g,b, ?_⟩;have a:g<w.heap.size:=by
  grind
 rw[c.block g a];exact h
theorem below_grow(w:World)(k:Nat)(os:Array Obj):Below w.heap.size w (Sort.grow (w.drewN k) os):=
 ⟨rfl,rfl,rfl,by simp_all,fun j a=>Array.getElem?_append_left a⟩
theorem BI(b:Nat)(w:World)(k:Nat)(os:Array Obj):Kept b w (Sort.grow (w.drewN k) os):=
 ⟨(below_grow w k os).size,fun j a _ _=>(below_grow w k os).block j a⟩
theorem du{B b:Nat}{c:List Value}(h:Lib.IsBuilder 85 5 B b c w)(m:Below w.heap.size w w'):Lib.IsBuilder 85 5 B b c w':=by
 have key:∀p,Lib.BuilderAt 85 5 B b p c w→Lib.BuilderAt 85 5 B b p c w':=by
  rintro p ⟨n,v,j,a,d⟩;have lt:∀{k o},w.heap[k]?=some o→k<w.heap.size:=fun {k o} e=>by
   grind
  refine⟨n,v,by rw[m.block b (lt j)];exact j, ?_,d⟩
  obtain⟨hl,q|⟨g,cap,cur,s,f,l,r⟩⟩:=a
  ·exact⟨hl,.inl q⟩
  ·exact⟨hl,.inr ⟨g,cap,cur,s,f,by rw[m.block g (lt l)];exact l,r⟩⟩
 rcases h with h|h
 ·exact .inl (key _ h)
 ·exact .inr (key _ h)
theorem tv(l:List Int)(n:Int):dM (l++[n])=dM l++(32::Lib.itoa n):=by simp[dM]
theorem vn(l:List Int)(k:Nat):(dM (l.take k)).length≤(dM l).length:=by
 have e:dM l=dM (l.take k)++dM (l.drop k):=by
  rw[dM,dM,dM,← List.flatten_append,← List.map_append,List.take_append_drop]
 grind
theorem j5(a b:List UInt8):(⟨a.toArray⟩++⟨b.toArray⟩:ByteArray)=⟨(a++b).toArray⟩:=by
 apply ByteArray.ext;simp
theorem C9(x:UInt8)(b:List UInt8):(⟨#[x]⟩++⟨b.toArray⟩:ByteArray)=⟨(x::b).toArray⟩:=j5 [x] b
set_option maxHeartbeats 4000000 in
set_option maxRecDepth 1000000 in
theorem jk(B b:Nat)(a head:List UInt8)(v:Value)(l:List Int)(A w:World)(h0:Below A.heap.size A w)(U:A.heap.size≤B)(u:Tab A)(hI:Lib.IsBuilder 85 5 B b (Lib.byteCells a) w)(x:B≤w.heap.size)
 (Z:rR B b w v l) (hl:fD l=true) (y:a.length+(dI head l).length≤100000000):
 Calls Tryz.prog 39 #[.string ⟨head.toArray⟩,v,.pointer (some ⟨b,0,none⟩)] w fun e w'=>e= .returned (.tuple #[])∧Lib.IsBuilder 85 5 B b (Lib.byteCells (a++dI head l)) w'∧Below B w w'∧Kept b w w':=by
 have C:a.length+head.length+(dM l).length+1≤100000000:=by
  simp only[dI,qn,qm]at y;omega
 obtain⟨ad,s⟩:=eM hl;have aa:∀args w,(callFunc 40 args).run Tryz.prog w= .ok (.enter 40 args) w:=enters_of Tryz.func40 (by kernel_rfl) rfl
 have ab:∀args w,(callFunc 41 args).run Tryz.prog w= .ok (.enter 41 args) w:=enters_of Tryz.func41 (by kernel_rfl) rfl
 have ac:∀args w,(callFunc 42 args).run Tryz.prog w= .ok (.enter 42 args) w:=enters_of Tryz.func42 (by kernel_rfl) rfl
 go_enter Tryz.func39,Tryz.ntmps39
 go_wp2_with (go_at_fn 40;refine(oU B b _ _ _ hI ?h1 x).mono ?_)
 case h1=>rw[Lib.byteCells_length];show a.length+head.toArray.size≤_;grind
 rintro e W1 ⟨rfl,J,p,q⟩;have D:=Z.kept p q;have E:=D;obtain⟨so,cap,rfl,hs⟩:=E
 go_wp2
 go_loopw [11] (fun i wr=>∃k:Nat,k≤l.length∧i= .int .i64 k∧Lib.IsBuilder 85 5 B b (Lib.byteCells (a++head++dM (l.take k))) wr∧Below B w wr∧Kept b w wr) (fun i _=>l.length-(intOf i).toNat)
 case atStart=>
  refine⟨0,Nat.zero_le _,rfl, ?_,p,q⟩;rw[show a++head++dM (l.take 0)=a++head by simp[dM],Lib.byteCells_append]
  exact .inr J
 case round=>
  obtain⟨k,W,rfl,t,d,m⟩:=hrel;have f:B≤wr.heap.size:=Nat.le_trans x d.size;have G:=Z.kept d m
  by_cases c:k<l.length
  ·obtain⟨ae,Y,e',Q⟩:=G;obtain⟨rfl,_,rfl⟩:=e';obtain⟨B',o,rfl,af,R,_⟩:=Q (by grind)
   have hx:l[k]?=some l[k]:=qq c;have g:l.take (k+1)=l.take k++[l[k]]:=List.take_succ_eq_append_getElem c;have h:=qC (s l[k] (List.getElem_mem c));have H:=fX (s l[k] (List.getElem_mem c));have I:=vn l (k+1);generalize l[k]=n at hx g h H;rw[g,tv,qn,qm]at I;have hc:wr.cell? ⟨B',o+k,none⟩=some (.int .i64 n):=by
    exact R k _ (by grind)
   have j:Tab wr:=u.below (h0.trans (d.mono U))
   go_wp2_with (go_at_fn 41;refine(Tryz.strconv_FormatInt_10 n h.1 h.2 _ j).mono ?_)
   rintro e W2 ⟨rfl,z,os,rfl⟩
   go_wp2_with (go_at_fn 40;refine(oU B b _ _ _ (du t (below_grow wr z os)) ?h2 (Nat.le_trans f (below_grow wr z os).size)).mono ?_)
   case h2=>rw[C9,Lib.byteCells_length];show _+(32::Lib.itoa n).toArray.size≤_;grind
   rintro e W3 ⟨rfl,K,L,M⟩;go_wp2
   go_roundw
   case rel=>
    refine⟨k+1,c,by simp, ?_,(d.trans ((below_grow wr z os).mono f)).trans L,(m.trans (BI b wr z os)).trans M⟩
    rw[g,tv,← List.append_assoc,Lib.byteCells_append _ (32::Lib.itoa n)];exact .inr K
   case measure=>
    simp only[RowKit.intOf];omega
  ·have W:k=l.length:=by omega
   subst W;have X:¬((l.length:Int)<l.length):=by omega
   go_wp2_with (go_at_fn 42;refine(Df B b _ 10 _ t ?h3 f).mono ?_)
   case h3=>rw[Lib.byteCells_length];grind
   rintro e W2 rfl N O P
   go_wp2
   go_end0
   refine⟨rfl, ?_,d.trans O,m.trans P⟩;rw[show a++dI head l=a++(head++dM l)++[10]by simp[dI],Lib.byteCells_append _ [10]]
   exact .inr N
end Go.Proofs.Y
namespace Go.Proofs.Y
open Go.RowKit Go.Am
structure Un(w:World)(vs:List Value)(o:yN):Prop where
 five:∃v0 v1 v2 v3 v4,vs=[v0,v1,v2,v3,v4]∧iz w v0 o.logs∧IntsAt w v1 o.words∧IntsAt w v2 o.owners∧IntsAt w v3 o.status∧iz w v4 o.queues
theorem CX(logs:List (List Int))(ss:List Int)(k:Nat)(s:Int)(h:ss[k]?=some s):pq logs k (ss.drop k)=yq logs k s++pq logs (k+1) (ss.drop (k+1)):=by
 have a:k<ss.length:=by
  grind
 rw[List.drop_eq_getElem_cons a];rw[qq a]at h;rw[Option.some.inj h];rfl
theorem Cm(qs:List (List Int))(k:Nat)(q:List Int)(h:qs[k]?=some q):jU k (qs.drop k)=dI (wD++Lib.itoa k) q++jU (k+1) (qs.drop (k+1)):=by
 have a:k<qs.length:=by
  grind
 rw[List.drop_eq_getElem_cons a];rw[qq a]at h;rw[Option.some.inj h];rfl
theorem xi(a b:List UInt8):(⟨#[116,104,114,101,97,100,32]⟩++⟨a.toArray⟩++⟨#[58,32]⟩++⟨b.toArray⟩:ByteArray)=⟨(vc++a++[58,32]++b).toArray⟩:=by
 show(⟨vc.toArray⟩++⟨a.toArray⟩++⟨[58,32].toArray⟩++⟨b.toArray⟩:ByteArray)=_;rw[j5,j5,j5]
theorem GI(a:List UInt8):(⟨#[113,117,101,117,101,32]⟩++⟨a.toArray⟩:ByteArray)=⟨(wD++a).toArray⟩:=j5 wD a
set_option maxHeartbeats 8000000 in
set_option maxRecDepth 1000000 in
theorem CP(w:World)(v0 v1 v2 v3 v4:Value)(o:yN)(X:EG o)(j:Tab w)(h0:iz w v0 o.logs)(h1:IntsAt w v1 o.words)(h2:IntsAt w v2 o.owners)(h3:IntsAt w v3 o.status)(h4:iz w v4 o.queues):
 Calls Tryz.prog 14 #[.agg #[v0,v1,v2,v3,v4]] w fun e w'=>e= .returned (.string ⟨(jX o).toArray⟩)∧Below w.heap.size w w':=by
 have a0:=Do X;have a1:=(eM X.status).1;have a2:=X.queues.1;have a3:∀args w,(callFunc 39 args).run Tryz.prog w= .ok (.enter 39 args) w:=enters_of Tryz.func39 (by kernel_rfl) rfl
 have a4:∀args w,(callFunc 43 args).run Tryz.prog w= .ok (.enter 43 args) w:=enters_of Tryz.func43 (by kernel_rfl) rfl
 have a5:∀args w,(callFunc 44 args).run Tryz.prog w= .ok (.enter 44 args) w:=enters_of Tryz.func44 (by kernel_rfl) rfl
 have a6:∀args w,(callFunc 45 args).run Tryz.prog w= .ok (.enter 45 args) w:=enters_of Tryz.func45 (by kernel_rfl) rfl
 obtain⟨aq,U,rfl,g0⟩:=h0;obtain⟨aC,ae,rfl,g3⟩:=id h3;obtain⟨Z,K,rfl,g4⟩:=h4
 go_enter Tryz.func14,Tryz.ntmps14
 go_wp2
 obtain⟨bx,ar⟩:∃bx:Obj,bx= .cells #[.slice aq o.logs.length U,v1,v2,.slice aC o.status.length ae,.slice Z o.queues.length K] 43:=⟨_,rfl⟩;have aa:(w.alloc bx).heap.size=w.heap.size+1:=by simp
 have G:Below w.heap.size w (w.alloc bx):=(Below.refl _ w).alloc (qe _) _;have ab:(w.alloc bx).heap[w.heap.size]?=some bx:=heap_alloc_new w _;obtain⟨Wb,au⟩:∃Wb,Wb=w.alloc bx:=⟨_,rfl⟩;rw[← au]at aa G ab;have M:∀wr,Below (w.heap.size+1) Wb wr→wr.heap[w.heap.size]?=some (.cells #[.slice aq o.logs.length U,v1,v2,.slice aC o.status.length ae,.slice Z o.queues.length K] 43 (0,0)):=fun wr hb=>by
  rw[hb.block w.heap.size (by omega),ab,ar]
 have a:∀wr,Below (w.heap.size+1) Wb wr→Below w.heap.size w wr:=fun wr hb=>G.trans (hb.mono (by omega))
 go_loopw [14] (fun i wr=>∃(k:Nat) (b:List UInt8),k≤o.status.length∧i= .int .i64 k∧Lib.IsBuilder 85 5 (w.heap.size+1) (w.heap.size+1) (Lib.byteCells b) wr∧w.heap.size+1≤wr.heap.size∧Below (w.heap.size+1) Wb wr∧
  b++(pq o.logs k (o.status.drop k)++(dI gZ o.words++(dI ownB o.owners++jU 0 o.queues)))=jX o) (fun i _=>o.status.length-(intOf i).toNat)
 case atStart=>
  have hf:=Lib.fresh_isBuilder 85 5 Wb;rw[aa]at hf;refine⟨0,[],Nat.zero_le _,rfl, ?_, ?_, ?_,rfl⟩
  ·rw[← ar,← au];exact hf
  ·simp_all
  ·rw[← ar,← au];exact(Below.refl _ Wb).alloc (by omega) _
 case round=>
  obtain⟨k,b,hk,rfl,H,g,d,f⟩:=hrel;have N:=M wr d;have c0:wr.cell? ⟨w.heap.size,0,none⟩=some (.slice aq o.logs.length U):=by rw[Lib.cell_of_heap N];rfl
  have c1:wr.cell? ⟨w.heap.size,1,none⟩=some v1:=by rw[Lib.cell_of_heap N];rfl
  have c2:wr.cell? ⟨w.heap.size,2,none⟩=some v2:=by rw[Lib.cell_of_heap N];rfl
  have c4:wr.cell? ⟨w.heap.size,4,none⟩=some (.slice Z o.queues.length K):=by rw[Lib.cell_of_heap N];rfl
  have aI:b.length≤50000000:=by
   grind
  by_cases O:k<o.status.length
  ·obtain⟨B3,o3,rfl,aU,aD⟩:=g3 (by grind)
   have hx:o.status[k]?=some o.status[k]:=qq O;have B:=qC ((eM X.status).2 o.status[k] (List.getElem_mem O));have m:=qC (n6 (t:=k) (by grind))
   have aJ:=fX (n6 (t:=k) (by grind))
   have aK:=fX ((eM X.status).2 o.status[k] (List.getElem_mem O));generalize o.status[k]=s at hx B aK;have Y:=CX o.logs o.status k s hx;have a7:wr.cell? ⟨B3,o3+k,none⟩=some (.int .i64 s):=by
    rw[World.cell?_of_block (w:=w) ((a wr d).block B3 aU)];exact aD k _ (by grind)
   have aL:(k:Int)<o.status.length:=by omega
   by_cases av:k<o.logs.length
   ·obtain⟨B0,o0,us,rfl,aV,aE,aW,aF⟩:=g0 (by grind)
    have hu:us[k]?=some (us[k]'(by omega)):=qq _
    have hl:o.logs[k]?=some o.logs[k]:=qq av;have x:=aF k _ _ hu hl;have L:o.logs.getD k []=o.logs[k]:=by grind
    have v:=X.logs.2 _ (List.getElem_mem av);generalize o.logs[k]=lg at hl x L v;generalize us[k]'(by omega)=u at hu x
    have a8:wr.cell? ⟨B0,o0+k,none⟩=some u:=by
     rw[World.cell?_of_block (w:=w) ((a wr d).block B0 aV)];exact aE k _ hu
    have aw:(k:Int)<o.logs.length:=by omega
    go_wp2_with (go_at_fn 43;refine(Tryz.strconv_Itoa k m.1 m.2 _ (j.below (a wr d))).mono ?_;rintro e E ⟨rfl,I,os,rfl⟩)
    have n:=d.trans ((below_grow wr I os).mono g);have C:=du H (below_grow wr I os);have p:=Nat.le_trans g (below_grow wr I os).size;generalize Sort.grow (wr.drewN I) os=E at n C p ⊢
    go_wp2_with (go_at_fn 43;refine(Tryz.strconv_Itoa s B.1 B.2 _ (j.below (a E n))).mono ?_;rintro e W3 ⟨rfl,z,A,rfl⟩)
    have l:=n.trans ((below_grow E z A).mono p);have D:=du C (below_grow E z A);have y:=Nat.le_trans p (below_grow E z A).size;generalize Sort.grow (E.drewN z) A=W3 at l D y ⊢;have W:b.length+(dI (vc++Lib.itoa k++[58,32]++Lib.itoa s) lg).length≤100000000:=by
     have:=congrArg List.length f;rw[Y,yq,L]at this;grind
    go_wp2_with (go_at_fn 39;rw[xi];refine(jk (w.heap.size+1) (w.heap.size+1) b (vc++Lib.itoa k++[58,32]++Lib.itoa s) u lg w W3 (a W3 l) (by omega) j D y (x.toK (a W3 l) (by omega) _) v W).mono ?_;rintro e W4 ⟨rfl,am,an,ao⟩)
    go_roundw
    case rel=>
     refine⟨k+1,_,O,by simp,am,Nat.le_trans y ao.1,l.trans an, ?_⟩
     rw[← f,Y,yq,L];grind
    case measure=>
     simp only[RowKit.intOf];omega
   ·have x:IntsAt w (.slice none 0 0) []:=⟨none,0,rfl,fun h=>absurd rfl h⟩
    have L:o.logs.getD k []=[]:=by grind
    have aw:¬(k:Int)<o.logs.length:=by omega
    go_wp2_with (go_at_fn 43;refine(Tryz.strconv_Itoa k m.1 m.2 _ (j.below (a wr d))).mono ?_;rintro e E ⟨rfl,I,os,rfl⟩)
    have n:=d.trans ((below_grow wr I os).mono g);have C:=du H (below_grow wr I os);have p:=Nat.le_trans g (below_grow wr I os).size;generalize Sort.grow (wr.drewN I) os=E at n C p ⊢
    go_wp2_with (go_at_fn 43;refine(Tryz.strconv_Itoa s B.1 B.2 _ (j.below (a E n))).mono ?_;rintro e W3 ⟨rfl,z,A,rfl⟩)
    have l:=n.trans ((below_grow E z A).mono p);have D:=du C (below_grow E z A);have y:=Nat.le_trans p (below_grow E z A).size;generalize Sort.grow (E.drewN z) A=W3 at l D y ⊢;have W:b.length+(dI (vc++Lib.itoa k++[58,32]++Lib.itoa s) []).length≤100000000:=by
     have:=congrArg List.length f;rw[Y,yq,L]at this;grind
    go_wp2_with (go_at_fn 39;rw[xi];refine(jk (w.heap.size+1) (w.heap.size+1) b (vc++Lib.itoa k++[58,32]++Lib.itoa s) (.slice none 0 0) [] w W3 (a W3 l) (by omega) j D y (x.toK (a W3 l) (by omega) _) rfl W).mono ?_;rintro e W4 ⟨rfl,am,an,ao⟩)
    go_roundw
    case rel=>
     refine⟨k+1,_,O,by simp,am,Nat.le_trans y ao.1,l.trans an, ?_⟩
     rw[← f,Y,yq,L];grind
    case measure=>
     simp only[RowKit.intOf];omega
  ·have hk:k=o.status.length:=by omega
   subst hk;have aZ:¬((o.status.length:Int)<o.status.length):=by omega
   have af:b++(dI gZ o.words++(dI ownB o.owners++jU 0 o.queues))=jX o:=by
    rw[← f,List.drop_length];rfl
   have W:b.length+(dI gZ o.words).length≤100000000:=by
    grind
   go_wp2_with (go_at_fn 39;refine(jk (w.heap.size+1) (w.heap.size+1) b gZ v1 o.words w wr (a wr d) (by omega) j H g (h1.toK (a wr d) (by omega) _) X.words W).mono ?_;rintro e W1 ⟨rfl,ap,ac,aA⟩;have G:=d.trans ac;have ag:=Nat.le_trans g aA.1;have aM:W1.cell? ⟨w.heap.size,2,none⟩=some v2:=(by rw[Lib.cell_of_heap (M W1 G)];rfl))
   have P:w.heap.size+1<W1.heap.size:=by
    rcases ap with h|h
    ·exact h.lt
    ·exact h.lt
   go_wp2_with (go_at_fn 44;refine(tz v2 o.owners W1 (h2.below (a W1 G)) (eM X.owners).1).mono ?_;rintro e E ⟨u2,rfl,aP,J⟩)
   have n:=G.trans (J.mono ag);have C:=du ap J;have p:=Nat.le_trans ag J.size;have W:(b++dI gZ o.words).length+(dI ownB o.owners).length≤100000000:=by
    grind
   go_wp2_with (go_at_fn 39;refine(jk (w.heap.size+1) (w.heap.size+1) (b++dI gZ o.words) ownB u2 o.owners w E (a E n) (by omega) j C p (aP _ _ P) X.owners W).mono ?_;rintro e W3 ⟨rfl,D,ad,aB⟩;have l:=n.trans ad;have y:=Nat.le_trans p aB.1;have ba:W3.cell? ⟨w.heap.size,4,none⟩=some (.slice Z o.queues.length K):=(by rw[Lib.cell_of_heap (M W3 l)];rfl))
   have Q:b++dI gZ o.words++dI ownB o.owners++jU 0 o.queues=jX o:=by
    grind
   clear W f af ac J ad aA aB n C p aM ap G ag N c0 c1 c2 c4 H d;generalize b++dI gZ o.words++dI ownB o.owners=az at D Q
   go_wp2
   go_loopw [52] (fun i wr=>∃(c:Nat) (b:List UInt8),c≤o.queues.length∧i= .int .i64 c∧Lib.IsBuilder 85 5 (w.heap.size+1) (w.heap.size+1) (Lib.byteCells b) wr∧w.heap.size+1≤wr.heap.size∧Below (w.heap.size+1) Wb wr∧
    b++jU c (o.queues.drop c)=jX o) (fun i _=>o.queues.length-(intOf i).toNat)
   case atStart=>exact⟨0,az,Nat.zero_le _,rfl,D,y,l,Q⟩
   case round=>
    obtain⟨c,b,hc,rfl,H,g,d,f⟩:=hrel;have aI:b.length≤50000000:=by
     grind
    by_cases ah:c<o.queues.length
    ·obtain⟨B4,o4,us,rfl,aX,aG,aY,aH⟩:=g4 (by grind)
     have hu:us[c]?=some (us[c]'(by omega)):=qq _
     have hl:o.queues[c]?=some o.queues[c]:=qq ah;have x:=aH c _ _ hu hl;have v:=X.queues.2 _ (List.getElem_mem ah);have aN:=Cm o.queues c _ hl;generalize o.queues[c]=q at hl x v aN;generalize us[c]'(by omega)=u at hu x
     have bb:wr.cell? ⟨B4,o4+c,none⟩=some u:=by
      rw[World.cell?_of_block (w:=w) ((a wr d).block B4 aX)];exact aG c _ hu
     have aL:(c:Int)<o.queues.length:=by omega
     have m:=qC (n6 (t:=c) (by omega))
     have aJ:=fX (n6 (t:=c) (by omega))
     go_wp2_with (go_at_fn 43;refine(Tryz.strconv_Itoa c m.1 m.2 _ (j.below (a wr d))).mono ?_;rintro e W5 ⟨rfl,I,os,rfl⟩)
     have aj:=d.trans ((below_grow wr I os).mono g);have ak:=du H (below_grow wr I os);have al:=Nat.le_trans g (below_grow wr I os).size;generalize Sort.grow (wr.drewN I) os=W5 at aj ak al ⊢;have P:w.heap.size+1<W5.heap.size:=by
      rcases ak with h|h
      ·exact h.lt
      ·exact h.lt
     go_wp2_with (go_at_fn 44;refine(tz u q W5 (x.below (a W5 aj)) (eM v).1).mono ?_;rintro e W6 ⟨u6,rfl,aQ,R⟩)
     have ax:=aj.trans (R.mono al);have aO:=du ak R;have ay:=Nat.le_trans al R.size;have W:b.length+(dI (wD++Lib.itoa c) q).length≤100000000:=by
      grind
     go_wp2_with (go_at_fn 39;rw[GI];refine(jk (w.heap.size+1) (w.heap.size+1) b (wD++Lib.itoa c) u6 q w W6 (a W6 ax) (by omega) j aO ay (aQ _ _ P) v W).mono ?_;rintro e W7 ⟨rfl,aR,aS,aT⟩)
     go_roundw
     case rel=>
      refine⟨c+1,_,ah,by simp,aR,Nat.le_trans ay aT.1,ax.trans aS, ?_⟩
      grind
     case measure=>
      simp only[RowKit.intOf];omega
    ·have hc:c=o.queues.length:=by omega
     subst hc;have f:b=jX o:=by rw[← f];simp[jU]
     subst f
     go_wp2_with (go_at_fn 45;refine(Tryz.Builder_String_any (w.heap.size+1) (w.heap.size+1) (jX o) _ H g).mono ?_;rintro e W8 ⟨rfl,b8⟩)
     go_ret
     exact⟨rfl,a W8 (d.trans b8)⟩
end Go.Proofs.Y
namespace Go.Proofs.Y
open Go.Proofs.YtcholkmididfmaaGreatDoor
open Go.RowKit Go.Am
def Hu:List Int:=[0,1,28,2,29,14,24,3,30,22,20,15,25,17,4,8,31,27,13,23,21,19,16,7,26,12,18,6,11,5,10,9]
def DF:List Int:=[0,1,56,2,57,49,28,3,61,58,42,50,38,29,17,4,62,47,59,36,45,43,51,22,53,39,33,30,24,18,12,5,63,55,48,27,60,41,37,16,46,35,44,21,52,32,23,11,54,26,40,15,34,20,31,10,25,14,19,9,13,8,7,6]
def td:List Int:=[1,10,100,1000,10000,100000,1000000,10000000,100000000,1000000000,10000000000,100000000000,1000000000000,10000000000000,100000000000000,1000000000000000,10000000000000000,100000000000000000,1000000000000000000,10000000000000000000]
def ny:List (String×Nat×List UInt8):=[("syncope/blame.errArg",0,[99,111,100,101,32,49]),("syncope/blame.errRange",1,[99,111,100,101,32,50]),("syncope/blame.errText",2,[99,111,100,101,32,51]),("syncope/blame.errLarge",3,[99,111,100,101,32,52]),("syncope/blame.errBlock",4,[99,111,100,101,32,53]),("syncope/blame.errLock",5,[99,111,100,101,32,54]),("syncope/blame.errMode",6,[99,111,100,101,32,55]),("syncope/blame.errOrder",7,[99,111,100,101,32,56]),("syncope/blame.errCond",8,[99,111,100,101,32,57]),("syncope/blame.errState",9,[99,111,100,101,32,49,48])]
def pi:List (String×DataW Unit):=("math/bits.deBruijn32tab",.agg (Hu.map fun m=>.lit (.int .u8 m)))::("math/bits.deBruijn64tab",.agg (DF.map fun m=>.lit (.int .u8 m)))::("internal/strconv.uint64pow10",.agg (td.map fun m=>.lit (.int .u64 m)))::("errors.errorType",.iface "internal/reflectlite.rtype" (.agg [.ptr (.lit (.string [101,114,114,111,114]))]))::ny.map fun r=>(r.1,Ki "*errors.errorString" r.2.2)
def Ee(f:ia):List bc→Option bc
 | [.agg [lg,g,os,st,qs]]=>
  (uP f lg).bind fun a=>(q8 f g).bind fun b=>(q8 f os).bind fun c=>(q8 f st).bind fun d=>(uP f qs).bind fun e=>
   bif Ir ⟨a,b,c,d,e⟩then some (.str (jX ⟨a,b,c,d,e⟩))else none
 |_=>none
def fg:Nat→List bc→bd→Option (bc×bd):=fun _ args H=>(Ee (fun b=>H[b]?) args).map fun v=>(v,H)
noncomputable def J4:Nat→List bc→Hp→Option (bc×Hp):=fun _ args h=>(Ee h.get args).map fun v=>(v,h)
noncomputable def St(pol:FuncId→Pol)(l:sU):bh where
 P:=Tryz.prog
 glob:=fun _=>none
 tab:=[(11,(td.map (Value.int .u64)).toArray)]
 pol:=pol
 hook:=fun f=>if Nat.beq f 14 then some fg else pV l f
 meth:=fun _ _=>none
 quiet:=fun f=>Nat.beq f 14
 quietOk:=fun f h=>⟨fg,by rw[h];rfl,fun lo args H r H' e=>by
  simp only[fg,qd]at e;grind⟩
noncomputable def HT0:FuncId→Option jT:=fun f=>if Nat.beq f 14 then some J4 else none
theorem CO:(Tryz.prog.funcs.toList.all fun fn=>!(fn.name== "runtime.NumGoroutine"))=true:=by kernel_rfl
variable {l:sU}{pol:FuncId→Pol}
theorem Ft{f:FuncId}{a:Nat→List bc→bd→Option (bc×bd)}(h:(St pol l).hook f=some a):(f=14∧a=fg)∨a=mm l f:=by
 simp only[St]at h;split at h
 ·simp_all
 ·exact .inr (yX h)
theorem IO(pol:FuncId→Pol):gs (St pol []) HT0:=by
 intro f;simp only[St,HT0];cases hf:Nat.beq f 14 with
 |false=>
  simp only[Bool.false_eq_true,if_false,show pV [] f=none from rfl]
 |true=>
  intro lo args h r b a e;simp only[J4,qd]at e;obtain⟨v,e1,rfl,rfl⟩:=e;refine⟨a, ?_⟩;simp only[fg];rw[← eO a,e1];rfl
theorem L9{c:Cx}(a:cV (St pol l) c):Tab c.w:=by
 obtain⟨_,t,fr,h⟩:=a.t (11,(td.map (Value.int .u64)).toArray) (List.mem_singleton.2 rfl);have b:Tryz.prog.globalNamed "internal/strconv.uint64pow10" =some 11:=by kernel_rfl
 have e:td=Lib.pow10Tab:=by kernel_rfl
 show c.w.var? Tryz.prog "internal/strconv.uint64pow10" =_
 unfold World.var?;grind
theorem Ht:∃fn,Tryz.prog.funcs[14]?=some fn∧fn.body.isSome=true:=⟨_,Tryz.func14,by kernel_rfl⟩
theorem xQ:∀lo args H r H',fg lo args H=some (r,H')→∀c vs,Rel c H→cV (St pol l) c→Vs c args vs→
 (∃fn,Tryz.prog.funcs[14]?=some fn∧fn.body.isSome=true)∧Calls Tryz.prog 14 vs.toArray c.w (fk lo c H r H'):=by
 intro lo args H r H' h c vs f m n;refine⟨Ht, ?_⟩;simp only[fg,qd]at h;obtain⟨v,h,rfl,rfl⟩:=h;unfold Ee at h;split at h
 ·simp only[Option.bind_eq_some_iff]at h;obtain⟨a,o,b,h1,d,p,e,q,g,s,h⟩:=h;cases j:Ir ⟨a,b,d,e,g⟩with
  |false=>grind
  |true=>
   rw[j]at h;simp at h;subst h;obtain⟨_,_,rfl,⟨C,rfl,t,_,rfl,u,v1,_,rfl,g1,v2,_,rfl,x,y,_,rfl,z,A,_,rfl,B,rfl⟩,rfl⟩:=n;have k:=CP c.w t v1 v2 y A ⟨a,b,d,e,g⟩ (Ik j) (L9 m) (t7 f o u) (mM f h1 g1) (mM f p x) (mM f q z) (t7 f s B);refine JK f (k.mono ?_);rintro e w' ⟨rfl,j⟩;exact⟨_,fun _=>False,rfl,j,fun _ h=>h.elim,by simp only[V];grind⟩
 ·cases h
def J2(a:Nat→List bc→bd→Option (bc×bd)):Prop:=∀lo args H r H',a lo args H=some (r,H')→H.length≤H'.length∧∀b,b<lo→b<H.length→H'[b]?=H[b]?
theorem vo:J2 fg:=by
 intro lo args H r H' h;simp only[fg,qd]at h;grind
def Bh(l:sU):Prop:=∀f a v,(f,a,v)∈l→jO a=true∧v.bare=true∧(∃fn,Tryz.prog.funcs[f]?=some fn∧fn.body.isSome=true)∧
 ∀c vs,Rel c []→cV (St (fun _=>.keep) []) c→Vs c a vs→∃H1,Calls Tryz.prog f vs.toArray c.w (fk 0 c [] v H1)
theorem Jt:Bh []:=fun _ _ _ h=>by cases h
theorem KD(pol:FuncId→Pol)(l:sU):∀f a,(St pol l).hook f=some a→J2 a:=fun f a h=>by
 rcases Ft h with⟨rfl,rfl⟩|rfl
 ·exact vo
 ·exact zE
theorem MU(pol:FuncId→Pol)(hl:Bh l):dH (St pol l) where
 noNum:=fun f fn h=>by
  have h1:=List.all_eq_true.1 CO fn (qo (i:=f) (by rw[Array.getElem?_toList];exact h))
  grind
 meth:=fun t b g h=>by cases h
 hook:=fun f p h=>by
  rcases Ft h with⟨rfl,rfl⟩|rfl
  ·exact xQ
  ·intro lo args H r H' e c vs d a j;obtain⟨k,rfl⟩:=tV e;obtain⟨m,n,o,h1⟩:=hl _ _ _ k;exact⟨o,CY (S:=St (fun _=>.keep) []) m n h1 lo c H' vs d ⟨a.v,a.t⟩ j⟩
 mixed:=by kernel_rfl
 low:=KD pol l
theorem Mi(pol:FuncId→Pol)(l:sU){W:World}(e:laidMetH Tryz.prog pi W):∃θ,cV (St pol l) (cx0 W θ):=by
 have a:laidMet Tryz.prog (pi.filter fun x=>x.2.handleName?.isNone) W∧handlesMet Tryz.prog (pi.filter fun x=>x.2.handleName?.isSome) W:=e
 have f:(pi.filter fun x=>x.2.handleName?.isNone)=("math/bits.deBruijn32tab",.agg (Hu.map fun m=>.lit (.int .u8 m)))::("math/bits.deBruijn64tab",.agg (DF.map fun m=>.lit (.int .u8 m)))::("internal/strconv.uint64pow10",.agg (td.map fun m=>.lit (.int .u64 m)))::(ny.map (fun r=>(r.1,Ki "*errors.errorString" r.2.2))++[]):=by rfl
 obtain⟨⟨ps,h1,j,n⟩,_⟩:=a;obtain⟨⟨o,q0,b,q⟩,s⟩:=tb (g:=12) (ns:=Hu) (k:=.u8) h1 (by kernel_rfl) (by kernel_rfl) Tryz.underlying227 Tryz.underlying5 (by kernel_rfl) (by kernel_rfl) (by decide)
 obtain⟨⟨t,q1,c,e1⟩,v1⟩:=tb (g:=13) (ns:=DF) (k:=.u8) b (by kernel_rfl) (by kernel_rfl) Tryz.underlying228 Tryz.underlying5 (by kernel_rfl) (by kernel_rfl) (by decide)
 have lt:=G2 (g:=11) (ns:=td) (k:=.u64) c (by kernel_rfl) (by kernel_rfl) Tryz.underlying207 Tryz.underlying134 (by kernel_rfl) (by kernel_rfl) (by decide)
 exact⟨[],fun g cs h=>(by cases h),fun p d=>by obtain rfl:=List.mem_singleton.1 d;exact lt []⟩
end Go.Proofs.Y

/- What the seat's idealised runs stand on: errors.As by its contract, at a target of type **blame.At (nil; an *At; an *errorString); two looks of reflectlite's; the ten sentinels and the type's handle, out of the laid condition. Printed by a program (wip/tools/base.py) off the dump; the walk of errors.As is the guide's worked text (ToyasAs) at this dump's numbers. -/
import Derived.Test.YtbbbpnaghipfmaaGreatDoorRows
import Derived.WalkKit
import Derived.LaidEql
import Derived.Stop.Asserts
import Derived.RowKitTokens
import Derived.LaidLaws
import Derived.LaidHandle
import Derived.KernelRfl
import Derived.Test.YtbbbpnaghipfmaaGreatDoorLib2
import Derived.Test.YtbbbpnaghipfmaaGreatDoorSh
namespace Go.Proofs.YtbbbpnaghipfmaaGreatDoor
open Go.RowKit Go.Extern.Stop Go.Stop Go.Extern Go.Am

theorem as_nil (t : Value) (w : World) :
    Calls Tryz.prog 34 #[.nilIface, t] w fun e w' => e = .returned (.bool false) ∧ w' = w := by
  go_enter Tryz.func34, Tryz.ntmps34
  go_wp2
  go_ret
  exact ⟨rfl, rfl⟩

theorem bValueOf (t : Addr) (w : World) : (ReflectliteValue.unpack (.iface 82 (.pointer (some t)))).run Tryz.prog w
    = .ok (.agg #[.pointer (some ⟨19, 82, none⟩), .pointer (some ⟨w.heap.size, 0, none⟩), .int .u64 150]) (w.alloc (.cells #[.pointer (some t)] 82)) := by kernel_rfl
theorem bType (a : Addr) (w : World) : (ReflectliteValue.methodAny (ReflectliteValue.valueError "reflectlite.Value.Type" 0) (fun t _ _ _ => ReflectliteType.toType t) #[.agg #[.pointer (some ⟨19, 82, none⟩), .pointer (some a), .int .u64 150]]).run Tryz.prog w
    = .ok (.iface 89 (.agg #[.pointer (some ⟨19, 82, none⟩)])) w := by kernel_rfl
theorem mKind (h : Value) (w : World) : (Go.method 289 89 (.agg #[h]) "Kind").run Tryz.prog w = .ok (102, h) w := by kernel_rfl
theorem bKindPP (w : World) : ((ReflectliteType.abiMethod fun t => (fun a : Nat => Value.int IntKind.u8 (a : Int)) <$> Rtype.kind t) #[.pointer (some ⟨19, 82, none⟩)]).run Tryz.prog w = .ok (.int .u8 22) w := by kernel_rfl
theorem bKindP (w : World) : ((ReflectliteType.abiMethod fun t => (fun a : Nat => Value.int IntKind.u8 (a : Int)) <$> Rtype.kind t) #[.pointer (some ⟨19, 65, none⟩)]).run Tryz.prog w = .ok (.int .u8 22) w := by kernel_rfl

theorem rlm (z : Sem Value) (f : TypeId → Addr → Nat → Nat → Sem Value) (v : Value) :
    ReflectliteValue.method z f #[v] = (do match ← ReflectliteValue.parts v with | none => z | some (t, a, fl) => f t a fl (fl % 32)) := rfl
theorem bPartsPP (a : Addr) (w : World) : (ReflectliteValue.parts (.agg #[.pointer (some ⟨19, 82, none⟩), .pointer (some a), .int .u64 150])).run Tryz.prog w = .ok (some (82, a, 150)) w := by kernel_rfl
theorem bIsNil (a p : Addr) (W : World) (ha : W.cell? a = some (.pointer (some p))) :
    (ReflectliteValue.method (ReflectliteValue.valueError "reflectlite.Value.IsNil" 0) ReflectliteValue.isNil #[.agg #[.pointer (some ⟨19, 82, none⟩), .pointer (some a), .int .u64 150]]).run Tryz.prog W = .ok (.bool false) W := by
  rw [rlm]
  simp only [Sem.run_bind, bPartsPP, Result.andThen]
  simp [ReflectliteValue.isNil, loadVar, isAgg, underlying, Tryz.underlying82, ha, Result.andThen]

theorem mElem (h : Value) (w : World) : (Go.method 289 89 (.agg #[h]) "Elem").run Tryz.prog w = .ok (110, .agg #[h]) w := by kernel_rfl
theorem mImplements (h : Value) (w : World) : (Go.method 289 89 (.agg #[h]) "Implements").run Tryz.prog w = .ok (111, .agg #[h]) w := by kernel_rfl
theorem mAssignableTo (h : Value) (w : World) : (Go.method 289 89 (.agg #[h]) "AssignableTo").run Tryz.prog w = .ok (108, .agg #[h]) w := by kernel_rfl
theorem bElem (w : World) : (ReflectliteType.method ReflectliteType.elem #[.agg #[.pointer (some ⟨19, 82, none⟩)]]).run Tryz.prog w = .ok (.iface 89 (.agg #[.pointer (some ⟨19, 65, none⟩)])) w := by kernel_rfl
theorem bImplements (w : World) : (ReflectliteType.relation "Implements" ReflectliteType.implements_ #[.agg #[.pointer (some ⟨19, 65, none⟩)], .iface 89 (.agg #[.pointer (some ⟨19, 38, none⟩)])]).run Tryz.prog w = .ok (.bool true) w := by kernel_rfl
theorem bTypeOfAt (v : Value) (w : World) : (ReflectliteType.typeOf #[.iface 65 v]).run Tryz.prog w = .ok (.iface 89 (.agg #[.pointer (some ⟨19, 65, none⟩)])) w := by kernel_rfl
theorem bTypeOfES (v : Value) (w : World) : (ReflectliteType.typeOf #[.iface 144 v]).run Tryz.prog w = .ok (.iface 89 (.agg #[.pointer (some ⟨19, 144, none⟩)])) w := by kernel_rfl
theorem bAssignAt (w : World) : (ReflectliteType.relation "AssignableTo" ReflectliteType.assignableTo #[.agg #[.pointer (some ⟨19, 65, none⟩)], .iface 89 (.agg #[.pointer (some ⟨19, 65, none⟩)])]).run Tryz.prog w = .ok (.bool true) w := by kernel_rfl
theorem bAssignES (w : World) : (ReflectliteType.relation "AssignableTo" ReflectliteType.assignableTo #[.agg #[.pointer (some ⟨19, 144, none⟩)], .iface 89 (.agg #[.pointer (some ⟨19, 65, none⟩)])]).run Tryz.prog w = .ok (.bool false) w := by kernel_rfl
theorem bValueOfAt (e : Addr) (w : World) : (ReflectliteValue.unpack (.iface 65 (.pointer (some e)))).run Tryz.prog w
    = .ok (.agg #[.pointer (some ⟨19, 65, none⟩), .pointer (some ⟨w.heap.size, 0, none⟩), .int .u64 150]) (w.alloc (.cells #[.pointer (some e)] 65)) := by kernel_rfl
theorem noAs (v : Value) (xT : TypeId) (w : World) : (Instr.typeAssert (.iface 144 v) xT 118 true).run Tryz.prog w = .ok (.tuple #[.nilIface, .bool false]) w := run_typeAssert_lacksB Tryz.underlying118 (by kernel_rfl) (by kernel_rfl) v xT w
theorem noUnwrap (v : Value) (xT : TypeId) (w : World) : (Instr.typeAssert (.iface 144 v) xT 94 true).run Tryz.prog w = .ok (.tuple #[.nilIface, .bool false]) w := run_typeAssert_lacksB Tryz.underlying94 (by kernel_rfl) (by kernel_rfl) v xT w
theorem noUnwraps (v : Value) (xT : TypeId) (w : World) : (Instr.typeAssert (.iface 144 v) xT 96 true).run Tryz.prog w = .ok (.tuple #[.nilIface, .bool false]) w := run_typeAssert_lacksB Tryz.underlying96 (by kernel_rfl) (by kernel_rfl) v xT w

theorem bElemOf (w : World) : (Rtype.elem? 82).run Tryz.prog w = .ok (some 65) w := by kernel_rfl
theorem bMk (p : Addr) (w : World) : (ReflectliteValue.mk 65 p ReflectliteValue.flagAddr).run Tryz.prog w = .ok (.agg #[.pointer (some ⟨19, 65, none⟩), .pointer (some p), .int .u64 406]) w := by kernel_rfl
theorem bElemV (a p : Addr) (W : World) (ha : W.cell? a = some (.pointer (some p))) :
    (ReflectliteValue.method (ReflectliteValue.valueError "reflectlite.Value.Elem" 0) ReflectliteValue.elem #[.agg #[.pointer (some ⟨19, 82, none⟩), .pointer (some a), .int .u64 150]]).run Tryz.prog W
      = .ok (.agg #[.pointer (some ⟨19, 65, none⟩), .pointer (some p), .int .u64 406]) W := by
  rw [rlm]
  simp only [Sem.run_bind, bPartsPP, Result.andThen]
  simp [ReflectliteValue.elem, loadVar, isAgg, underlying, Tryz.underlying82, ha, Result.andThen, bElemOf, bMk]
theorem rls (v x : Value) : ReflectliteValue.set #[v, x] = (do
    let (some (dst, a, fl), some (src, b, _)) := (← ReflectliteValue.parts v, ← ReflectliteValue.parts x)
      | unsupported (.noEntry "extern/(internal/reflectlite.Value).Set.zeroValue")
    if fl / ReflectliteValue.flagAddr % 2 == 0 then unsupported (.noEntry "extern/(internal/reflectlite.Value).Set.unaddressable")
    let val ← loadVar src b
    if ← Rtype.directlyAssignable dst src then storeVar dst a val
    else if ← Rtype.implements dst src then
      if (← Rtype.kind src) == 20 then
        match val with
        | .nilIface => unsupported (.noEntry "extern/reflectlite: a nil value of one interface type handed on as a value of another")
        | _ => storeVar dst a val
      else storeVar dst a (.iface src val)
    else panicString ("reflectlite.Set: value of type " ++ (← Rtype.spelt src) ++ " is not assignable to type " ++ (← Rtype.spelt dst))
    pure (.tuple #[])) := rfl
theorem bPartsA (a : Addr) (w : World) : (ReflectliteValue.parts (.agg #[.pointer (some ⟨19, 65, none⟩), .pointer (some a), .int .u64 406])).run Tryz.prog w = .ok (some (65, a, 406)) w := by kernel_rfl
theorem bParts (a : Addr) (w : World) : (ReflectliteValue.parts (.agg #[.pointer (some ⟨19, 65, none⟩), .pointer (some a), .int .u64 150])).run Tryz.prog w = .ok (some (65, a, 150)) w := by kernel_rfl
theorem bDirect (w : World) : (Rtype.directlyAssignable 65 65).run Tryz.prog w = .ok true w := by kernel_rfl
theorem bSize (w : World) : (sizeOf 65).run Tryz.prog w = .ok 1 w := by kernel_rfl
theorem bSet (ta b e : Addr) (old : Value) (W : World) (hb : W.cell? b = some (.pointer (some e))) (ht : W.cell? ta = some old) (hf : W.frozen? ta = false) :
    (ReflectliteValue.set #[.agg #[.pointer (some ⟨19, 65, none⟩), .pointer (some ta), .int .u64 406], .agg #[.pointer (some ⟨19, 65, none⟩), .pointer (some b), .int .u64 150]]).run Tryz.prog W
      = .ok (.tuple #[]) (W.setCell ta (.pointer (some e))) := by
  rw [rls]
  simp only [Sem.run_bind, bPartsA, bParts, Result.andThen]
  simp [ReflectliteValue.flagAddr, loadVar, isAgg, underlying, Tryz.underlying65, hb, Result.andThen, bDirect, storeVar, Value.cells, storeCells, Addr.add]
  rw [run_store Tryz.prog W ta _ _ (by rfl)]
  simp [ht, hf]

set_option maxHeartbeats 4000000 in
theorem as_hit (e t : Addr) (old : Value) (w : World) (hg : w.cell? ⟨10, 0, none⟩ = some (.iface 89 (.agg #[.pointer (some ⟨19, 38, none⟩)]))) (ht0 : w.cell? t = some old) (hf0 : w.frozen? t = false) :
    Calls Tryz.prog 34 #[.iface 65 (.pointer (some e)), .iface 82 (.pointer (some t))] w fun ev w' => ev = .returned (.bool true) ∧ w' = ((((w.alloc (.cells #[.pointer (some t)] 82)).alloc (.cells #[.pointer (some ⟨19, 82, none⟩), .pointer (some ⟨w.heap.size, 0, none⟩), .int .u64 150] 102)).alloc (.cells #[.pointer (some ⟨19, 82, none⟩), .pointer (some ⟨w.heap.size, 0, none⟩), .int .u64 150] 102)).alloc (.cells #[.pointer (some e)] 65)).setCell t (.pointer (some e)) := by
  have h6 := @run_callFunc_extern Tryz.prog 42 _ (fun args => ReflectliteValue.unpack (args.getD 0 (.tuple #[]))) Tryz.func42 (by kernel_rfl) (by kernel_rfl) (by kernel_rfl) (by kernel_rfl)
  have h7 := @run_callFunc_extern Tryz.prog 43 _ (ReflectliteValue.methodAny (ReflectliteValue.valueError "reflectlite.Value.Type" 0) (fun t _ _ _ => ReflectliteType.toType t)) Tryz.func43 (by kernel_rfl) (by kernel_rfl) (by kernel_rfl) (by kernel_rfl)
  have h8 := @run_callFunc_extern Tryz.prog 44 _ (ReflectliteValue.method (ReflectliteValue.valueError "reflectlite.Value.IsNil" 0) ReflectliteValue.isNil) Tryz.func44 (by kernel_rfl) (by kernel_rfl) (by kernel_rfl) (by kernel_rfl)
  have h27 := @run_callFunc_extern Tryz.prog 102 _ (ReflectliteType.abiMethod fun t => do pure (.int .u8 (← Rtype.kind t))) Tryz.func102 (by kernel_rfl) (by kernel_rfl) (by kernel_rfl) (by kernel_rfl)
  have h37 := @run_callFunc_extern Tryz.prog 110 _ (ReflectliteType.method ReflectliteType.elem) Tryz.func110 (by kernel_rfl) (by kernel_rfl) (by kernel_rfl) (by kernel_rfl)
  have h38 := @run_callFunc_extern Tryz.prog 111 _ (ReflectliteType.relation "Implements" ReflectliteType.implements_) Tryz.func111 (by kernel_rfl) (by kernel_rfl) (by kernel_rfl) (by kernel_rfl)
  have h10 := @run_callFunc_extern Tryz.prog 30 _ ReflectliteType.typeOf Tryz.func30 (by kernel_rfl) (by kernel_rfl) (by kernel_rfl) (by kernel_rfl)
  have h35 := @run_callFunc_extern Tryz.prog 108 _ (ReflectliteType.relation "AssignableTo" ReflectliteType.assignableTo) Tryz.func108 (by kernel_rfl) (by kernel_rfl) (by kernel_rfl) (by kernel_rfl)
  have h11 := @run_callFunc_extern Tryz.prog 52 _ (ReflectliteValue.method (ReflectliteValue.valueError "reflectlite.Value.Elem" 0) ReflectliteValue.elem) Tryz.func52 (by kernel_rfl) (by kernel_rfl) (by kernel_rfl) (by kernel_rfl)
  have h12 := @run_callFunc_extern Tryz.prog 53 _ ReflectliteValue.set Tryz.func53 (by kernel_rfl) (by kernel_rfl) (by kernel_rfl) (by kernel_rfl)
  have tO := bTypeOfAt
  have mA := mAssignableTo
  have a25 := bAssignAt
  have v25 := bValueOfAt
  have f6 := bValueOf
  have f7 := bType
  have mK := mKind
  have mE := mElem
  have mI := mImplements
  have k27 := bKindPP
  have k25 := bKindP
  have e27 := bElem
  have i25 := bImplements
  have n8 := bIsNil ⟨w.heap.size, 0, none⟩ t ((w.alloc (.cells #[.pointer (some t)] 82)).alloc (.cells #[.pointer (some ⟨19, 82, none⟩), .pointer (some ⟨w.heap.size, 0, none⟩), .int .u64 150] 102)) (by simp)
  have hlt : 10 < w.heap.size := by
    rcases Nat.lt_or_ge 10 w.heap.size with h | h
    · exact h
    · simp [World.cell?, Array.getElem?_eq_none h] at hg
  have hg2 : ((w.alloc (.cells #[.pointer (some t)] 82)).alloc (.cells #[.pointer (some ⟨19, 82, none⟩), .pointer (some ⟨w.heap.size, 0, none⟩), .int .u64 150] 102)).cell? ⟨10, 0, none⟩ = some (.iface 89 (.agg #[.pointer (some ⟨19, 38, none⟩)])) := by
    rw [World.cell?_alloc_lt _ _ ⟨10, 0, none⟩ (by simp; omega), World.cell?_alloc_lt _ _ ⟨10, 0, none⟩ hlt]; exact hg
  have htl : t.block < w.heap.size := by
    rcases Nat.lt_or_ge t.block w.heap.size with h | h
    · exact h
    · simp [World.cell?, Array.getElem?_eq_none h] at ht0
  have el := bElemV ⟨w.heap.size, 0, none⟩ t (((w.alloc (.cells #[.pointer (some t)] 82)).alloc (.cells #[.pointer (some ⟨19, 82, none⟩), .pointer (some ⟨w.heap.size, 0, none⟩), .int .u64 150] 102)).alloc (.cells #[.pointer (some ⟨19, 82, none⟩), .pointer (some ⟨w.heap.size, 0, none⟩), .int .u64 150] 102)) (by rw [World.cell?_alloc_lt _ _ ⟨w.heap.size, 0, none⟩ (by simp; omega)]; simp)
  have st := bSet t ⟨w.heap.size + 1 + 1 + 1, 0, none⟩ e old ((((w.alloc (.cells #[.pointer (some t)] 82)).alloc (.cells #[.pointer (some ⟨19, 82, none⟩), .pointer (some ⟨w.heap.size, 0, none⟩), .int .u64 150] 102)).alloc (.cells #[.pointer (some ⟨19, 82, none⟩), .pointer (some ⟨w.heap.size, 0, none⟩), .int .u64 150] 102)).alloc (.cells #[.pointer (some e)] 65))
    (by rw [World.cell?_alloc_at _ _ _ _ (by simp)]; rfl)
    (by rw [World.cell?_alloc_lt _ _ t (by simp; omega), World.cell?_alloc_lt _ _ t (by simp; omega), World.cell?_alloc_lt _ _ t (by simp; omega), World.cell?_alloc_lt _ _ t htl]; exact ht0)
    (by rw [World.frozen?_alloc_old _ _ t (by simp; omega), World.frozen?_alloc_old _ _ t (by simp; omega), World.frozen?_alloc_old _ _ t (by simp; omega), World.frozen?_alloc_old _ _ t (Nat.ne_of_lt htl)]; exact hf0)
  go_enter Tryz.func34, Tryz.ntmps34
  go_wp2
  refine wp_loop_rounds 1 ?_
  rw [rounds_succ]
  go_wp2
  go_ret
  exact ⟨rfl, rfl⟩

set_option maxHeartbeats 4000000 in
theorem as_miss (e t : Addr) (w : World) (hg : w.cell? ⟨10, 0, none⟩ = some (.iface 89 (.agg #[.pointer (some ⟨19, 38, none⟩)]))) :
    Calls Tryz.prog 34 #[.iface 144 (.pointer (some e)), .iface 82 (.pointer (some t))] w fun ev w' => ev = .returned (.bool false) ∧ w' = (((w.alloc (.cells #[.pointer (some t)] 82)).alloc (.cells #[.pointer (some ⟨19, 82, none⟩), .pointer (some ⟨w.heap.size, 0, none⟩), .int .u64 150] 102)).alloc (.cells #[.pointer (some ⟨19, 82, none⟩), .pointer (some ⟨w.heap.size, 0, none⟩), .int .u64 150] 102)) := by
  have h6 := @run_callFunc_extern Tryz.prog 42 _ (fun args => ReflectliteValue.unpack (args.getD 0 (.tuple #[]))) Tryz.func42 (by kernel_rfl) (by kernel_rfl) (by kernel_rfl) (by kernel_rfl)
  have h7 := @run_callFunc_extern Tryz.prog 43 _ (ReflectliteValue.methodAny (ReflectliteValue.valueError "reflectlite.Value.Type" 0) (fun t _ _ _ => ReflectliteType.toType t)) Tryz.func43 (by kernel_rfl) (by kernel_rfl) (by kernel_rfl) (by kernel_rfl)
  have h8 := @run_callFunc_extern Tryz.prog 44 _ (ReflectliteValue.method (ReflectliteValue.valueError "reflectlite.Value.IsNil" 0) ReflectliteValue.isNil) Tryz.func44 (by kernel_rfl) (by kernel_rfl) (by kernel_rfl) (by kernel_rfl)
  have h27 := @run_callFunc_extern Tryz.prog 102 _ (ReflectliteType.abiMethod fun t => do pure (.int .u8 (← Rtype.kind t))) Tryz.func102 (by kernel_rfl) (by kernel_rfl) (by kernel_rfl) (by kernel_rfl)
  have h37 := @run_callFunc_extern Tryz.prog 110 _ (ReflectliteType.method ReflectliteType.elem) Tryz.func110 (by kernel_rfl) (by kernel_rfl) (by kernel_rfl) (by kernel_rfl)
  have h38 := @run_callFunc_extern Tryz.prog 111 _ (ReflectliteType.relation "Implements" ReflectliteType.implements_) Tryz.func111 (by kernel_rfl) (by kernel_rfl) (by kernel_rfl) (by kernel_rfl)
  have h10 := @run_callFunc_extern Tryz.prog 30 _ ReflectliteType.typeOf Tryz.func30 (by kernel_rfl) (by kernel_rfl) (by kernel_rfl) (by kernel_rfl)
  have h35 := @run_callFunc_extern Tryz.prog 108 _ (ReflectliteType.relation "AssignableTo" ReflectliteType.assignableTo) Tryz.func108 (by kernel_rfl) (by kernel_rfl) (by kernel_rfl) (by kernel_rfl)
  have tO := bTypeOfES
  have mA := mAssignableTo
  have a25 := bAssignES
  have f6 := bValueOf
  have f7 := bType
  have mK := mKind
  have mE := mElem
  have mI := mImplements
  have k27 := bKindPP
  have k25 := bKindP
  have e27 := bElem
  have i25 := bImplements
  have nA := noAs
  have nU := noUnwrap
  have nUs := noUnwraps
  have n8 := bIsNil ⟨w.heap.size, 0, none⟩ t ((w.alloc (.cells #[.pointer (some t)] 82)).alloc (.cells #[.pointer (some ⟨19, 82, none⟩), .pointer (some ⟨w.heap.size, 0, none⟩), .int .u64 150] 102)) (by simp)
  have hlt : 10 < w.heap.size := by
    rcases Nat.lt_or_ge 10 w.heap.size with h | h
    · exact h
    · simp [World.cell?, Array.getElem?_eq_none h] at hg
  have hg2 : ((w.alloc (.cells #[.pointer (some t)] 82)).alloc (.cells #[.pointer (some ⟨19, 82, none⟩), .pointer (some ⟨w.heap.size, 0, none⟩), .int .u64 150] 102)).cell? ⟨10, 0, none⟩ = some (.iface 89 (.agg #[.pointer (some ⟨19, 38, none⟩)])) := by
    rw [World.cell?_alloc_lt _ _ ⟨10, 0, none⟩ (by simp; omega), World.cell?_alloc_lt _ _ ⟨10, 0, none⟩ hlt]; exact hg
  go_enter Tryz.func34, Tryz.ntmps34
  go_wp2
  refine wp_loop_rounds 1 ?_
  rw [rounds_succ]
  go_wp2
  go_ret
  exact ⟨rfl, rfl⟩

/-- errors.As, in an idealised run. -/
noncomputable def asHook : Nat → List AVal → Heap → Option (AVal × Heap) := fun lo args H =>
  match args with
  | [.nili, _] => some (.bool false, H)
  | [.iface u a, .iface q (.ptr b off)] =>
    match nk a, H[b]? with
    | some (.p, false), some (some (.cells cs)) =>
      if q = 82 ∧ lo ≤ b ∧ off < cs.length then
        if u = 65 then some (.bool true, H.set b (some (.cells (splice cs off [a]))))
        else if u = 144 then some (.bool false, H) else none
      else none
    | _, _ => none
  | _ => none

theorem asHook_low : ∀ lo args H r H', asHook lo args H = some (r, H') → H.length ≤ H'.length ∧ ∀ b, b < lo → b < H.length → H'[b]? = H[b]? := by
  intro lo args H r H' h
  unfold asHook at h
  (repeat' split at h) <;> first
    | (cases h; done)
    | (simp only [Option.some.injEq, Prod.mk.injEq] at h
       obtain ⟨_, rfl⟩ := h
       first
        | exact ⟨Nat.le_refl _, fun _ _ _ => rfl⟩
        | (rename_i hc _
           exact ⟨by simp, fun i h1 _ => by rw [List.getElem?_set, if_neg (by omega)]⟩))

noncomputable def metF (t : TypeId) (n : String) : Option FuncId := if t == 65 && n == "Unwrap" then some 106 else none
theorem metOk : ∀ t name g, metF t name = some g → ∀ a w, (method (Tryz.prog.types.size + Made.depth) t (.pointer a) name).run Tryz.prog w = .ok (g, .pointer a) w := by
  intro t name g h a w
  unfold metF at h
  split at h
  · rename_i e
    simp only [Bool.and_eq_true, beq_iff_eq] at e
    obtain ⟨rfl, rfl⟩ := e
    simp only [Option.some.injEq] at h
    subst h
    kernel_rfl
  cases h

noncomputable def extF (f : FuncId) (args : List AVal) : Option AVal :=
  if f == 30 then (match args with | [.iface t _] => if t == 144 then some (.iface 89 (.agg [.hnd 19 144])) else if t == 65 then some (.iface 89 (.agg [.hnd 19 65])) else none | _ => none)
  else if f == 109 then (match args with | [.agg [.hnd b t]] => if b == 19 && (t == 144 || t == 65) then some (.bool true) else none | _ => none)
  else none
theorem bCompES (w : World) : ((ReflectliteType.method fun t => do Rtype.noPackHeld "Comparable" t; pure (.bool (← typeInfo t).comparable)) #[.agg #[.pointer (some ⟨19, 144, none⟩)]]).run Tryz.prog w = .ok (.bool true) w := by kernel_rfl
theorem bCompAt (w : World) : ((ReflectliteType.method fun t => do Rtype.noPackHeld "Comparable" t; pure (.bool (← typeInfo t).comparable)) #[.agg #[.pointer (some ⟨19, 65, none⟩)]]).run Tryz.prog w = .ok (.bool true) w := by kernel_rfl
theorem extOk : ∀ f av r, extF f av = some r → ∀ (c : Cx) (vs : List Value), Vs c av vs → ∃ u, (callFunc f vs.toArray).run Tryz.prog c.w = .ok (.value u) c.w ∧ V c r u := by
  have hT := @run_callFunc_extern Tryz.prog 30 _ ReflectliteType.typeOf Tryz.func30 (by kernel_rfl) (by kernel_rfl) (by kernel_rfl) (by kernel_rfl)
  have hC := @run_callFunc_extern Tryz.prog 109 _ (ReflectliteType.method fun t => do Rtype.noPackHeld "Comparable" t; pure (.bool (← typeInfo t).comparable)) Tryz.func109 (by kernel_rfl) (by kernel_rfl) (by kernel_rfl) (by kernel_rfl)
  intro f av r h c vs hv
  unfold extF at h
  split at h
  · rename_i e
    obtain rfl : f = 30 := by simpa using e
    split at h
    · simp only [Vs, V] at hv
      obtain ⟨_, _, rfl, ⟨u, rfl, _⟩, rfl⟩ := hv
      split at h
      · rename_i e
        simp only [beq_iff_eq] at e
        subst e
        simp only [Option.some.injEq] at h
        subst h
        exact ⟨_, by rw [hT, bTypeOfES]; rfl, by simp only [V, Vs]; exact ⟨_, rfl, _, rfl, _, _, rfl, rfl, rfl⟩⟩
      · split at h
        · rename_i e
          simp only [beq_iff_eq] at e
          subst e
          simp only [Option.some.injEq] at h
          subst h
          exact ⟨_, by rw [hT, bTypeOfAt]; rfl, by simp only [V, Vs]; exact ⟨_, rfl, _, rfl, _, _, rfl, rfl, rfl⟩⟩
        · cases h
    · cases h
  · split at h
    · rename_i e
      obtain rfl : f = 109 := by simpa using e
      split at h
      · simp only [Vs, V] at hv
        obtain ⟨_, _, rfl, ⟨_, rfl, _, _, rfl, rfl, rfl⟩, rfl⟩ := hv
        split at h
        · rename_i e
          simp only [Bool.and_eq_true, Bool.or_eq_true, beq_iff_eq] at e
          simp only [Option.some.injEq] at h
          subst h
          obtain ⟨rfl, rfl | rfl⟩ := e
          · exact ⟨.bool true, by rw [hC, bCompES]; rfl, by simp only [V]⟩
          · exact ⟨.bool true, by rw [hC, bCompAt]; rfl, by simp only [V]⟩
        · cases h
      · cases h
    · cases h

noncomputable def metV (t : TypeId) (n : String) (a : AVal) : Option (FuncId × AVal) := if t == 89 && n == "Comparable" then some (109, a) else none
theorem metVOk : ∀ t name a g b, metV t name a = some (g, b) → ∀ (c : Cx) (u : Value), V c a u → ∃ u', (method (Tryz.prog.types.size + Made.depth) t u name).run Tryz.prog c.w = .ok (g, u') c.w ∧ V c b u' := by
  intro t name a g b h c u hu
  unfold metV at h
  split at h
  · rename_i e
    simp only [Bool.and_eq_true, beq_iff_eq] at e
    obtain ⟨rfl, rfl⟩ := e
    simp only [Option.some.injEq, Prod.mk.injEq] at h
    obtain ⟨rfl, rfl⟩ := h
    exact ⟨u, by kernel_rfl, hu⟩
  · cases h

/-- The sentinels: name, number, text. -/
def data0 : List Int := [0, 1, 28, 2, 29, 14, 24, 3, 30, 22, 20, 15, 25, 17, 4, 8, 31, 27, 13, 23, 21, 19, 16, 7, 26, 12, 18, 6, 11, 5, 10, 9]
def data1 : List Int := [0, 1, 56, 2, 57, 49, 28, 3, 61, 58, 42, 50, 38, 29, 17, 4, 62, 47, 59, 36, 45, 43, 51, 22, 53, 39, 33, 30, 24, 18, 12, 5, 63, 55, 48, 27, 60, 41, 37, 16, 46, 35, 44, 21, 52, 32, 23, 11, 54, 26, 40, 15, 34, 20, 31, 10, 25, 14, 19, 9, 13, 8, 7, 6]
def data2 : List Int := [1, 10, 100, 1000, 10000, 100000, 1000000, 10000000, 100000000, 1000000000, 10000000000, 100000000000, 1000000000000, 10000000000000, 100000000000000, 1000000000000000, 10000000000000000, 100000000000000000, 1000000000000000000, 10000000000000000000]
def sentRows : List (String × Nat × List UInt8) := [("strconv.ErrRange", 15, [118, 97, 108, 117, 101, 32, 111, 117, 116, 32, 111, 102, 32, 114, 97, 110, 103, 101]), ("strconv.ErrSyntax", 14, [105, 110, 118, 97, 108, 105, 100, 32, 115, 121, 110, 116, 97, 120]), ("syncope/blame.errArg", 0, [99, 111, 100, 101, 32, 49]), ("syncope/blame.errRange", 1, [99, 111, 100, 101, 32, 50]), ("syncope/blame.errText", 2, [99, 111, 100, 101, 32, 51]), ("syncope/blame.errLarge", 3, [99, 111, 100, 101, 32, 52]), ("syncope/blame.errBlock", 4, [99, 111, 100, 101, 32, 53]), ("syncope/blame.errLock", 5, [99, 111, 100, 101, 32, 54]), ("syncope/blame.errMode", 6, [99, 111, 100, 101, 32, 55]), ("syncope/blame.errOrder", 7, [99, 111, 100, 101, 32, 56]), ("syncope/blame.errCond", 8, [99, 111, 100, 101, 32, 57]), ("syncope/blame.errState", 9, [99, 111, 100, 101, 32, 49, 48])]
noncomputable def globF (g : Nat) : Option (List AVal) := if g == 17 then some (data0.map (AVal.int .u8)) else if g == 18 then some (data1.map (AVal.int .u8)) else if g == 16 then some (data2.map (AVal.int .u64)) else if g == 10 then some [.iface 89 (.agg [.hnd 19 38])] else ((sentRows.zipIdx).find? fun x => x.1.2.1 == g).map fun x => [.iface 144 (.eptr x.2 [.str x.1.2.2])]

/-- What an idealised run stands on; pol: how each call ends; l: what is told of closed calls. -/
noncomputable def St (pol : FuncId → Pol) (l : Lits) : AStat where
  P := Tryz.prog
  glob := globF
  pol := pol
  hook := fun f => if f == 34 then some asHook else if f == 26 then some splitHook else if f == 51 then some (parseHook 134) else litHook l f
  meth := metF
  methV := metV
  methVOk := metVOk
  ext := extF
  extOk := extOk

theorem noNum_all : (Tryz.prog.funcs.toList.all fun fn => !(fn.name == "runtime.NumGoroutine")) = true := by kernel_rfl
theorem asBody : ∃ fn, Tryz.prog.funcs[34]? = some fn ∧ fn.body.isSome = true := ⟨_, Tryz.func34, by kernel_rfl⟩

theorem hookSt {pol : FuncId → Pol} {l : Lits} {f : FuncId} {hk : Nat → List AVal → Heap → Option (AVal × Heap)} (h : (St pol l).hook f = some hk) :
    (f = 34 ∧ hk = asHook) ∨ (f = 26 ∧ hk = splitHook) ∨ (f = 51 ∧ hk = parseHook 134) ∨ hk = litFun l f := by
  simp only [St] at h
  split at h
  · rename_i e
    simp only [Option.some.injEq] at h
    exact .inl ⟨by simpa using e, h.symm⟩
  · split at h
    · rename_i e
      simp only [Option.some.injEq] at h
      exact .inr (.inl ⟨by simpa using e, h.symm⟩)
    · split at h
      · rename_i e
        simp only [Option.some.injEq] at h
        exact .inr (.inr (.inl ⟨by simpa using e, h.symm⟩))
      · exact .inr (.inr (.inr (litHook_is h)))

theorem splitBody : ∃ fn, Tryz.prog.funcs[26]? = some fn ∧ fn.body.isSome = true := ⟨_, Tryz.func26, by kernel_rfl⟩
theorem parseBody : ∃ fn, Tryz.prog.funcs[51]? = some fn ∧ fn.body.isSome = true := ⟨_, Tryz.func51, by kernel_rfl⟩

theorem splitHook_ok : ∀ lo args H r H', splitHook lo args H = some (r, H') → ∀ c vs, Rel c H → Vs c args vs →
    (∃ fn, Tryz.prog.funcs[26]? = some fn ∧ fn.body.isSome = true) ∧ Calls Tryz.prog 26 vs.toArray c.w (CallPost lo c H r H') :=
  fun _ _ _ _ _ h _ _ hR hv => ⟨splitBody, split_contract splitSaid h hR hv⟩
theorem parseHook_ok (pol : FuncId → Pol) (l : Lits) : ∀ lo args H r H', parseHook 134 lo args H = some (r, H') → ∀ c vs, Rel c H → GlobOk (St pol l) c → Vs c args vs →
    (∃ fn, Tryz.prog.funcs[51]? = some fn ∧ fn.body.isSome = true) ∧ Calls Tryz.prog 51 vs.toArray c.w (CallPost lo c H r H') := by
  intro lo args H r H' h c vs hR hG hv
  have hgl := hG.v 15 _ rfl
  simp only [V, Vs] at hgl
  obtain ⟨B', o', ws, e1, _, hat, w1, _, rfl, ⟨w2, rfl, _⟩, rfl⟩ := hgl
  simp only [Value.pointer.injEq, Option.some.injEq, Addr.mk.injEq] at e1
  obtain ⟨rfl, rfl, _⟩ := e1
  exact ⟨parseBody, parse_contract parseSaid (by simpa using hat 0 _ rfl) (.inr ⟨_, _, rfl⟩) h hR hv⟩

theorem asHook_ok (pol : FuncId → Pol) (l : Lits) : ∀ lo args H r H', asHook lo args H = some (r, H') → ∀ c vs, Rel c H → GlobOk (St pol l) c → Vs c args vs →
    (∃ fn, Tryz.prog.funcs[34]? = some fn ∧ fn.body.isSome = true) ∧ Calls Tryz.prog 34 vs.toArray c.w (CallPost lo c H r H') := by
  intro lo args H r H' h c vs hR hG hv
  refine ⟨asBody, ?_⟩
  unfold asHook at h
  split at h
  · simp only [Option.some.injEq, Prod.mk.injEq] at h
    obtain ⟨rfl, rfl⟩ := h
    simp only [Vs, V] at hv
    obtain ⟨_, _, rfl, rfl, t, _, rfl, _, rfl⟩ := hv
    refine (as_nil t c.w).mono ?_
    rintro e w' ⟨rfl, rfl⟩
    exact ⟨_, c, rfl, rfl, hR, Tr.refl _ _, Low.refl _ _ _, by simp only [V]⟩
  · rename_i u a q b off
    split at h
    · rename_i cs hk hb
      split at h
      · rename_i hc
        obtain ⟨rfl, hlo, hoff⟩ := hc
        simp only [Vs] at hv
        obtain ⟨v1, _, rfl, h1, v2, _, rfl, h2, rfl⟩ := hv
        have h1' := h1
        have h2' := h2
        simp only [V] at h1 h2
        obtain ⟨x, rfl, hx⟩ := h1
        obtain ⟨y, rfl, hy⟩ := h2
        have hy' : V c (.ptr b off) y := by simp only [V]; exact hy
        obtain ⟨B, base, hi, rfl, ⟨old, hold⟩, hfz, _⟩ := own_place hR hb hoff hy'
        have hxp := nk_sim hk hx
        obtain ⟨e, rfl⟩ : ∃ e, x = .pointer (some e) := by
          cases x <;> simp [vnk] at hxp
          rename_i p
          cases p <;> simp at hxp
          exact ⟨_, rfl⟩
        have hgl := hG.v 10 _ rfl
        simp only [V, Vs] at hgl
        obtain ⟨B', o', vs, e1, _, hat, w1, _, rfl, ⟨w2, rfl, w3, rfl, w4, _, rfl, rfl, rfl⟩, rfl⟩ := hgl
        simp only [Value.pointer.injEq, Option.some.injEq, Addr.mk.injEq] at e1
        obtain ⟨rfl, rfl, _⟩ := e1
        have hg : c.w.cell? ⟨10, 0, none⟩ = some (.iface 89 (.agg #[.pointer (some ⟨19, 38, none⟩)])) := by simpa using hat 0 _ rfl
        split at h
        · rename_i hu
          subst hu
          simp only [Option.some.injEq, Prod.mk.injEq] at h
          obtain ⟨rfl, rfl⟩ := h
          refine (as_hit e ⟨B, base + off, none⟩ old c.w hg hold hfz).mono ?_
          rintro ev w' ⟨rfl, hw⟩
          obtain ⟨c', h3, h4, h5, h6⟩ := hR.four_set _ _ _ _ hlo hb hoff hi hx hw
          exact ⟨_, c', rfl, h3, h4, h5, h6, by simp only [V]⟩
        · split at h
          · rename_i hu
            subst hu
            simp only [Option.some.injEq, Prod.mk.injEq] at h
            obtain ⟨rfl, rfl⟩ := h
            refine (as_miss e ⟨B, base + off, none⟩ c.w hg).mono ?_
            rintro ev w' ⟨rfl, hw⟩
            obtain ⟨c', h3, h4, h5, h6⟩ := hR.three _ _ _ lo hw
            exact ⟨_, c', rfl, h3, h4, h5, h6, by simp only [V]⟩
          · cases h
      · cases h
    · cases h
  · cases h

theorem stOk0 (pol : FuncId → Pol) : StatOk (St pol []) where
  noNum := fun f fn h => by
    have h1 := List.all_eq_true.1 noNum_all fn (List.mem_of_getElem? (i := f) (by rw [Array.getElem?_toList]; exact h))
    simpa using h1
  meth := metOk
  hook := fun f hk h => by
    rcases hookSt h with ⟨rfl, rfl⟩ | ⟨rfl, rfl⟩ | ⟨rfl, rfl⟩ | rfl
    · exact asHook_ok pol []
    · exact fun lo args H r H' e c vs hR _ hv => splitHook_ok lo args H r H' e c vs hR hv
    · exact parseHook_ok pol []
    · intro lo args H r H' e
      exact absurd (litFun_is e).1 (by simp)
  mixed := by kernel_rfl
  low := fun f hk h => by
    rcases hookSt h with ⟨rfl, rfl⟩ | ⟨rfl, rfl⟩ | ⟨rfl, rfl⟩ | rfl
    · exact asHook_low
    · exact splitHook_low
    · exact parseHook_low
    · exact litFun_low

/-- What is told is so. -/
def Told (l : Lits) : Prop := ∀ f a v, (f, a, v) ∈ l → baresA a = true ∧ v.bare = true ∧ ∃ pol n H1, runA (St pol []) n 0 f a [] = some (v, H1)

theorem stOk (pol : FuncId → Pol) {l : Lits} (hl : Told l) : StatOk (St pol l) where
  noNum := (stOk0 pol).noNum
  meth := metOk
  hook := fun f hk h => by
    rcases hookSt h with ⟨rfl, rfl⟩ | ⟨rfl, rfl⟩ | ⟨rfl, rfl⟩ | rfl
    · exact asHook_ok pol l
    · exact fun lo args H r H' e c vs hR _ hv => splitHook_ok lo args H r H' e c vs hR hv
    · exact parseHook_ok pol l
    · intro lo args H r H' e c vs hR hG hv
      obtain ⟨hm, rfl⟩ := litFun_is e
      obtain ⟨ha, hb, pol', n, H1, h1⟩ := hl _ _ _ hm
      exact lift_run (stOk0 pol') ha hb h1 lo c H' vs hR ⟨hG.v, hG.t⟩ hv
  mixed := (stOk0 pol).mixed
  low := fun f hk h => by
    rcases hookSt h with ⟨rfl, rfl⟩ | ⟨rfl, rfl⟩ | ⟨rfl, rfl⟩ | rfl
    · exact asHook_low
    · exact splitHook_low
    · exact parseHook_low
    · exact litFun_low

/-! ### The laid variables -/
theorem bET : Tryz.prog.globalNamed "errors.errorType" = some 10 := by kernel_rfl
theorem bRT : (Tryz.prog.cutTypes.find? (·.1 == "internal/reflectlite.rtype")).map (·.2) = some 89 := by kernel_rfl
theorem bOneRow : ((List.range 189).filter fun t => Tryz.prog.rowNamed t [101, 114, 114, 111, 114]) = [38] := by kernel_rfl
theorem bTypes : Tryz.prog.types.size = 189 := by kernel_rfl
theorem bStar : "*" ++ "errors.errorString" = "*errors.errorString" := by decide
theorem bRow (u : TypeId) (h : Tryz.prog.typeName? 3 u = some "*errors.errorString") : u = 144 :=
  typeName_ptr_named (nm := "errors.errorString") (by rw [bStar]; kernel_rfl) (by kernel_rfl) (by decide) u (by rw [bStar]; exact h)
theorem bCellsES : Tryz.prog.cellsOf 146 = 1 := by kernel_rfl
theorem bCellsStr : Tryz.prog.cellsOf 9 = 1 := by kernel_rfl

/-- The laid list: the handle, then the sentinels. -/
def laidL : List (String × DataW Unit) := ("math/bits.deBruijn32tab", .agg (data0.map fun m => .lit (.int .u8 m))) :: ("math/bits.deBruijn64tab", .agg (data1.map fun m => .lit (.int .u8 m))) :: ("internal/strconv.uint64pow10", .agg (data2.map fun m => .lit (.int .u64 m))) :: ("unicode/utf8.acceptRanges", Rows.laid_unicode_utf8_acceptRanges) :: ("errors.errorType", .iface "internal/reflectlite.rtype" (.agg [.ptr (.lit (.string [101, 114, 114, 111, 114]))])) :: ((sentRows.map fun r => (r.1, sentD "*errors.errorString" r.2.2)) ++ [("unicode/utf8.first", Rows.laid_unicode_utf8_first)])

theorem handle_of_laid {W : World} (h : laidMetH Tryz.prog laidL W) : W.cell? ⟨10, 0, none⟩ = some (.iface 89 (.agg #[.pointer (some ⟨19, 38, none⟩)])) := by
  have h' : laidMet Tryz.prog (laidL.filter fun x => x.2.handleName?.isNone) W ∧ handlesMet Tryz.prog (laidL.filter fun x => x.2.handleName?.isSome) W := h
  have hs : (laidL.filter fun x => x.2.handleName?.isSome) = [("errors.errorType", .iface "internal/reflectlite.rtype" (.agg [.ptr (.lit (.string [101, 114, 114, 111, 114]))]))] := by rfl
  rw [hs] at h'
  obtain ⟨name, u, ty, e1, e2, e3, e4, e5⟩ := h'.2 _ (List.mem_singleton.2 rfl)
  have en : name = [101, 114, 114, 111, 114] := (Option.some.inj e1).symm
  subst en
  obtain rfl := Option.some.inj (bRT.symm.trans e2)
  have hm : ty ∈ (List.range 189).filter fun t => Tryz.prog.rowNamed t [101, 114, 114, 111, 114] := List.mem_filter.2 ⟨List.mem_range.2 (by rw [← bTypes]; exact e3), e4⟩
  rw [bOneRow] at hm
  obtain rfl := List.mem_singleton.1 hm
  have hh : typeHandle Tryz.prog 38 = .pointer (some ⟨19, 38, none⟩) := by kernel_rfl
  rw [hh] at e5
  simpa using World.var?_cell bET e5 0

theorem sentTypes : ∀ r ∈ sentRows, Tryz.prog.globalNamed r.1 = some r.2.1 ∧ (Tryz.prog.globals[r.2.1]?).map (·.type) = some 38 := by
  intro r hr
  have h : (sentRows.all fun r => Tryz.prog.globalNamed r.1 == some r.2.1 && (Tryz.prog.globals[r.2.1]?).map (·.type) == some 38) = true := by kernel_rfl
  have h := List.all_eq_true.1 h r hr
  rw [Bool.and_eq_true, beq_iff_eq, beq_iff_eq] at h
  exact h

/-- What the laid condition gives an idealised run. -/
theorem globOk (pol : FuncId → Pol) (l : Lits) {W : World} (hL : laidMetH Tryz.prog laidL W) : ∃ θ, GlobOk (St pol l) (cx0 W θ) := by
  have h' : laidMet Tryz.prog (laidL.filter fun x => x.2.handleName?.isNone) W ∧ handlesMet Tryz.prog (laidL.filter fun x => x.2.handleName?.isSome) W := hL
  have hf : (laidL.filter fun x => x.2.handleName?.isNone) = ("math/bits.deBruijn32tab", .agg (data0.map fun m => .lit (.int .u8 m))) :: ("math/bits.deBruijn64tab", .agg (data1.map fun m => .lit (.int .u8 m))) :: ("internal/strconv.uint64pow10", .agg (data2.map fun m => .lit (.int .u64 m))) :: ("unicode/utf8.acceptRanges", Rows.laid_unicode_utf8_acceptRanges) :: (sentRows.map (fun r => (r.1, sentD "*errors.errorString" r.2.2)) ++ [("unicode/utf8.first", Rows.laid_unicode_utf8_first)]) := by rfl
  rw [hf] at h'
  obtain ⟨⟨ps, h1, h2, h3⟩, _⟩ := h'
  obtain ⟨⟨p0, q0, l0, e0⟩, v0⟩ := laid_data (g := 17) (ns := data0) (k := .u8) h1 (by kernel_rfl) (by kernel_rfl) Tryz.underlying159 Tryz.underlying5 (by kernel_rfl) (by kernel_rfl) (by decide)
  subst e0
  replace h2 := (List.nodup_append.1 h2).2.1
  replace h3 := fun b off hm => h3 b off (List.mem_append_right _ hm)
  obtain ⟨⟨p1, q1, l1, e1⟩, v1⟩ := laid_data (g := 18) (ns := data1) (k := .u8) l0 (by kernel_rfl) (by kernel_rfl) Tryz.underlying160 Tryz.underlying5 (by kernel_rfl) (by kernel_rfl) (by decide)
  subst e1
  replace h2 := (List.nodup_append.1 h2).2.1
  replace h3 := fun b off hm => h3 b off (List.mem_append_right _ hm)
  obtain ⟨⟨p2, q2, l2, e2⟩, v2⟩ := laid_data (g := 16) (ns := data2) (k := .u64) l1 (by kernel_rfl) (by kernel_rfl) Tryz.underlying154 Tryz.underlying62 (by kernel_rfl) (by kernel_rfl) (by decide)
  subst e2
  replace h2 := (List.nodup_append.1 h2).2.1
  replace h3 := fun b off hm => h3 b off (List.mem_append_right _ hm)
  obtain ⟨_, _, _, _, p9, q9, _, _, _, _, l9, e9⟩ := l2
  subst e9
  replace h2 := (List.nodup_append.1 h2).2.1
  replace h3 := fun b off hm => h3 b off (List.mem_append_right _ hm)
  replace h1 := l9
  obtain ⟨θ, h1, h2, _, h4⟩ := laid_sents Tryz.underlying38 bRow Tryz.underlying144 Tryz.underlying146 rfl rfl Tryz.underlying9 bCellsES bCellsStr sentRows sentTypes h1 h2 h3
  refine ⟨θ, fun g cs h => ?_, fun p h => by cases h⟩
  have h : globF g = some cs := h
  unfold globF at h
  split at h
  · rename_i e
    have e : g = 17 := by simpa using e
    subst e
    obtain rfl := Option.some.inj h
    exact v0 θ
  split at h
  · rename_i e
    have e : g = 18 := by simpa using e
    subst e
    obtain rfl := Option.some.inj h
    exact v1 θ
  split at h
  · rename_i e
    have e : g = 16 := by simpa using e
    subst e
    obtain rfl := Option.some.inj h
    exact v2 θ
  split at h
  · rename_i e
    have e : g = 10 := by simpa using e
    subst e
    obtain rfl := Option.some.inj h
    exact hnd_V (handle_of_laid hL)
  · rw [Option.map_eq_some_iff] at h
    obtain ⟨x, hx, rfl⟩ := h
    have hm := List.mem_of_find?_eq_some hx
    have hg := List.find?_some hx
    rw [List.mem_zipIdx_iff_getElem?] at hm
    have hg : x.1.2.1 = g := by simpa using hg
    subst hg
    have hlt : x.2 < θ.length := by
      rw [h1]
      rcases Nat.lt_or_ge x.2 sentRows.length with h | h
      · exact h
      · rw [List.getElem?_eq_none h] at hm; cases hm
    have hy : θ[x.2]? = some (θ[x.2].1, θ[x.2].2) := List.getElem?_eq_getElem hlt
    exact sent_V h2 hy (h4 x.2 _ _ _ hm hy)

end Go.Proofs.YtbbbpnaghipfmaaGreatDoor

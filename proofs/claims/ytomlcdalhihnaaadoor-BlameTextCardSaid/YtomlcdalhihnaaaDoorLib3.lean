/- Library, part 3: AmFast, AmCut, AmLift, AmTy, SyVal, SyOp, SySim, SySim2, SyExec, SyHeap, SyEff, SyEff2, SyEff3. General texts of the author of this claim: an idealised machine and a symbolic one, both proved sound over the model. -/
import Derived.Test.YtomlcdalhihnaaaDoorLib2
set_option linter.unusedVariables false
set_option linter.unusedSimpArgs false
/- The idealised run once more, over trees, for the kernel: what it comes to the run over lists comes to. Generic: over any program. -/
namespace Go.Am

abbrev HGet := Nat → Option (Option ABlk)

/-! ### The operations, by what reads an operand and a block -/
def atG (hg : HGet) : AVal → Option (List AVal)
  | .ipt cs => some cs
  | .eptr _ cs => some cs
  | .ptr b off => match hg b with
    | some (some (.cells cs)) => some (cs.drop off)
    | _ => none
  | _ => none
theorem atG_eq (H : Heap) (x : AVal) : atG (fun b => H[b]?) x = atA H x := by cases x <;> rfl

section
variable (P : Program)
def loadG (t : TypeId) (hg : HGet) (x : AVal) : Option AVal := (atG hg x).bind fun cs => partA P t cs 0

def sliceG (t : TypeId) (hg : HGet) (x : AVal) (lo hi mx : Option AVal) : Option AVal :=
  match P.underlying t, x with
  | some (.array n e), .ptr b off =>
    if (P.info? e).isSome ∧ mx.isNone then
      match hg b with
      | some (some (.cells cs)) =>
        if off + n * szOf P e ≤ cs.length then (boundA n n hi).bind fun h => (boundA 0 h lo).map fun l => .sl (szOf P e) b (off + l * szOf P e) (h - l) (n - l) true
        else none
      | _ => none
    else none
  | _, _ => sliceA P t [] x lo hi mx

theorem sliceG_eq (t : TypeId) (H : Heap) (x : AVal) (lo hi mx : Option AVal) : sliceG P t (fun b => H[b]?) x lo hi mx = sliceA P t H x lo hi mx := by
  unfold sliceG
  split
  · rename_i n e b off hu
    simp only [sliceA, hu]
    rfl
  · rename_i hne
    unfold sliceA
    split
    · rfl
    · rfl
    · rename_i n e hu
      split
      · split
        · rename_i b off
          exact (hne n e b off hu rfl).elim
        · rfl
        · rfl
      · rfl
    · rfl

def lenG (t : TypeId) (hg : HGet) (x : AVal) : Option AVal :=
  match P.underlying t, x with
  | some .string, .str s => some (.int .i64 s.length)
  | some (.array _ _), .mapr _ => none
  | some (.array n _), _ => some (.int .i64 n)
  | some (.slice _), .nils => some (.int .i64 0)
  | some (.slice _), .list _ rows _ => some (.int .i64 rows.length)
  | some (.slice _), .sl _ _ _ len _ _ => some (.int .i64 len)
  | some (.map _ _), .nilm => some (.int .i64 0)
  | some (.map _ _), .mapr b => match hg b with
    | some (some (.mp es)) => some (.int .i64 es.length)
    | _ => none
  | _, _ => none
theorem lenG_eq (t : TypeId) (H : Heap) (x : AVal) : lenG P t (fun b => H[b]?) x = lenA P t H x := rfl

def lookupG (t : TypeId) (hg : HGet) (m x : AVal) (ok : Bool) : Option AVal :=
  match P.underlying t with
  | some (.map kt et) =>
    match keyKind P kt, zeroA P et with
    | some k, some z =>
      if keyOk k x then
        match m with
        | .nilm => some (if ok then .tup [z, .bool false] else z)
        | .mapr b =>
          match hg b with
          | some (some (.mp es)) =>
            match findA k x es 0 with
            | some (some (_, v)) => some (if ok then .tup [v, .bool true] else v)
            | some none => some (if ok then .tup [z, .bool false] else z)
            | none => none
          | _ => none
        | _ => none
      else none
    | _, _ => none
  | _ => none
theorem lookupG_eq (t : TypeId) (H : Heap) (m x : AVal) (ok : Bool) : lookupG P t (fun b => H[b]?) m x ok = lookupA P t H m x ok := rfl

/-- What becomes of memory. -/
inductive Ed where
  | nop
  | set (b : Nat) (x : Option ABlk)
  | push (x : ABlk)
  | mv (b : Nat) (x : ABlk)

def Ed.onL (H : Heap) : Ed → Heap
  | .nop => H
  | .set b x => H.set b x
  | .push x => H ++ [some x]
  | .mv b x => H.set b none ++ [some x]
noncomputable def Ed.onH (h : Hp) : Ed → Option Hp
  | .nop => some h
  | .set b x => some (h.set b x)
  | .push x => h.push (some x)
  | .mv b x => (h.set b none).push (some x)

theorem Ed.on_ok {h h' : Hp} (ho : h.Ok) : ∀ {e : Ed}, e.onH h = some h' → h'.Ok ∧ h'.toL = e.onL h.toL
  | .nop, e => by simp only [Ed.onH, Option.some.injEq] at e; subst e; exact ⟨ho, rfl⟩
  | .set b x, e => by
    simp only [Ed.onH, Option.some.injEq] at e
    subst e
    exact ⟨Hp.set_ok ho b x, Hp.set_toL ho b x⟩
  | .push x, e => Hp.push_ok ho e
  | .mv b x, e => by
    obtain ⟨h1, h2⟩ := Hp.push_ok (Hp.set_ok ho b none) e
    exact ⟨h1, by rw [h2, Hp.set_toL ho]; rfl⟩

def storeG (lo : Nat) (t : TypeId) (hg : HGet) (x v : AVal) : Option Ed :=
  match x with
  | .ptr b off => match hg b with
    | some (some (.cells cs)) =>
      if lo ≤ b ∧ v.cells.length = szOf P t ∧ (P.info? t).isSome ∧ v.cells.all AVal.one ∧ off + v.cells.length ≤ cs.length then
        some (.set b (some (.cells (splice cs off v.cells))))
      else none
    | _ => none
  | _ => none
theorem storeG_eq (lo : Nat) (t : TypeId) (H : Heap) (x v : AVal) : (storeG P lo t (fun b => H[b]?) x v).map (Ed.onL H) = storeA P lo t H x v := by
  unfold storeG storeA
  cases x <;> first | rfl | skip
  rename_i b off
  simp only
  cases H[b]? with
  | none => rfl
  | some o => cases o with
    | none => rfl
    | some blk => cases blk with
      | mp es => rfl
      | cells cs =>
        simp only [apply_ite (Option.map (Ed.onL H)), Option.map_none, Option.map_some]
        rfl

def mapUpdateG (lo : Nat) (t : TypeId) (hg : HGet) (m x v : AVal) : Option Ed :=
  match P.underlying t with
  | some (.map kt _) =>
    match keyKind P kt with
    | some k =>
      if keyOk k x then
        match m with
        | .mapr b =>
          if lo ≤ b then
            match hg b with
            | some (some (.mp es)) =>
              match findA k x es 0 with
              | some (some (i, _)) => some (.set b (some (.mp (es.set i (x, v)))))
              | some none => some (.set b (some (.mp (es ++ [(x, v)]))))
              | none => none
            | _ => none
          else none
        | _ => none
      else none
    | none => none
  | _ => none
theorem mapUpdateG_eq (lo : Nat) (t : TypeId) (H : Heap) (m x v : AVal) : (mapUpdateG P lo t (fun b => H[b]?) m x v).map (Ed.onL H) = mapUpdateA P lo t H m x v := by
  unfold mapUpdateG mapUpdateA
  cases P.underlying t with
  | none => rfl
  | some d =>
    cases d <;> first | rfl | skip
    rename_i kt et
    simp only
    cases keyKind P kt with
    | none => rfl
    | some k =>
      simp only [apply_ite (Option.map (Ed.onL H)), Option.map_none]
      congr 1
      cases m <;> first | rfl | skip
      rename_i b
      simp only [apply_ite (Option.map (Ed.onL H)), Option.map_none]
      congr 1
      cases H[b]? with
      | none => rfl
      | some o => cases o with
        | none => rfl
        | some blk => cases blk with
          | cells cs => rfl
          | mp es =>
            simp only
            cases findA k x es 0 with
            | none => rfl
            | some q => cases q with
              | none => rfl
              | some y => rfl

def rowsG (hg : HGet) (sz : Nat) : AVal → Option (List (List AVal))
  | .nils => some []
  | .list s rows _ => if s = sz then some rows else none
  | .str s => if sz = 1 then some (s.map fun b => [.int .u8 b.toNat]) else none
  | .sl s b off len _ _ => if s = sz then
      match hg b with
      | some (some (.cells cs)) => if off + len * sz ≤ cs.length then some (chunk sz len (cs.drop off)) else none
      | _ => none
    else none
  | _ => none
theorem rowsG_eq (H : Heap) (sz : Nat) (x : AVal) : rowsG (fun b => H[b]?) sz x = rowsA H sz x := by cases x <;> rfl

def appendG (lo : Nat) (t u : TypeId) (hl : Nat) (hg : HGet) (s x : AVal) : Option (AVal × Ed) :=
  match P.underlying t with
  | some (.slice e) =>
    let sz := szOf P e
    if (P.info? e).isSome ∧ sz ≠ 0 ∧ notIntB P u = true ∧ zeroFits P e = true ∧ P.bytesOf e ≠ 0 then
      match rowsG hg sz x with
      | none => none
      | some rows =>
        let new := rows.flatten
        let n := rows.length
        if !(new.all AVal.one) then none else
        match s with
        | .nils =>
          if n = 0 then some (.nils, .nop)
          else if n * P.bytesOf e ≤ 140737488355328 then some (.sl sz hl 0 n n false, .push (.cells new))
          else none
        | .list s0 rs ex =>
          if s0 ≠ sz then none else
          if n = 0 then some (.list s0 rs ex, .nop)
          else if ex ∧ (rs.flatten).all AVal.one ∧ (rs.length + n) * P.bytesOf e ≤ 140737488355328 then some (.sl sz hl 0 (rs.length + n) (rs.length + n) false, .push (.cells (rs.flatten ++ new)))
          else none
        | .sl s0 b off len cap ex =>
          if s0 ≠ sz then none else
          match hg b with
          | some (some (.cells cs)) =>
            if off + len * sz ≤ cs.length then
              if n = 0 then some (.sl s0 b off len cap ex, .nop)
              else if len + n ≤ cap then
                if lo ≤ b ∧ off + (len + n) * sz ≤ cs.length then some (.sl sz b off (len + n) cap ex, .set b (some (.cells (splice cs (off + len * sz) new))))
                else none
              else if (len + n) * P.bytesOf e ≤ 140737488355328 then
                if ex then some (.sl sz hl 0 (len + n) (len + n) false, .push (.cells ((cs.drop off).take (len * sz) ++ new)))
                else if lo ≤ b ∧ off + len * sz = cs.length then some (.sl sz hl 0 (len + n) (len + n) false, .mv b (.cells (cs.drop off ++ new)))
                else none
              else none
            else none
          | _ => none
        | _ => none
    else none
  | _ => none
theorem appendG_eq (lo : Nat) (t u : TypeId) (H : Heap) (s x : AVal) : (appendG P lo t u H.length (fun b => H[b]?) s x).map (fun r => (r.1, r.2.onL H)) = appendA P lo t u H s x := by
  unfold appendG appendA
  cases P.underlying t with
  | none => rfl
  | some d =>
    cases d <;> first | rfl | skip
    rename_i e
    simp only [rowsG_eq, apply_ite (Option.map fun r : AVal × Ed => (r.1, r.2.onL H)), Option.map_none]
    congr 1
    cases rowsA H (szOf P e) x with
    | none => rfl
    | some rows =>
      simp only [apply_ite (Option.map fun r : AVal × Ed => (r.1, r.2.onL H)), Option.map_none]
      congr 1
      cases s <;> first | rfl | skip
      · simp only [apply_ite (Option.map fun r : AVal × Ed => (r.1, r.2.onL H)), Option.map_none, Option.map_some]
        rfl
      · simp only [apply_ite (Option.map fun r : AVal × Ed => (r.1, r.2.onL H)), Option.map_none, Option.map_some]
        rfl
      · rename_i s0 b off len cap ex
        simp only [apply_ite (Option.map fun r : AVal × Ed => (r.1, r.2.onL H)), Option.map_none]
        congr 1
        cases H[b]? with
        | none => rfl
        | some o => cases o with
          | none => rfl
          | some blk => cases blk with
            | mp es => rfl
            | cells cs =>
              simp only [apply_ite (Option.map fun r : AVal × Ed => (r.1, r.2.onL H)), Option.map_none, Option.map_some]
              rfl

end

def newG (S : AStat) (ev : Operand → AVal) : Op → Option (ABlk × (Nat → AVal))
  | .alloc t => allocA S.P t
  | .box _ x => boxA (ev x)
  | .buildSlice t len parts => buildSliceA S.P t len (parts.toList.map fun p => (p.1, ev p.2))
  | .makeSlice t l c => makeSliceA S.P t (ev l) (ev c)
  | .makeMap _ none => some (.mp [], fun id => .mapr id)
  | _ => none
theorem newG_eq (S : AStat) (ρ : List AVal) (o : Op) : newG S (evalA S ρ) o = newA S ρ o := by
  cases o <;> first | rfl | (rename_i t r; cases r <;> rfl)

def qPick (ev : Operand → AVal) (c a b : Operand) : Option AVal :=
  match ev c with
  | .bool true => some (ev a)
  | .bool false => some (ev b)
  | _ => none
def qBuild (P : Program) (ev : Operand → AVal) (t : TypeId) (parts : Array (Nat × Operand)) : Option AVal := buildA P t (parts.toList.map fun p => (p.1, ev p.2))
def qBin (P : Program) (ev : Operand → AVal) (op : BinOp) (t : TypeId) (x y : Operand) : Option AVal := binA P op t (litB x || litB y) (ev x) (ev y)
def qIface (P : Program) (ev : Operand → AVal) (t : TypeId) (x : Operand) : Option AVal := if ifaceB P t then none else some (.iface t (ev x))
def qFunc (ev : Operand → AVal) (f : Fn) (first captured : Array Operand) : Option AVal := some (.fn f (first.toList.map ev) (captured.toList.map ev))
def qSlice (P : Program) (ev : Operand → AVal) (hg : HGet) (t : TypeId) (x : Operand) (lo hi mx : Option Operand) : Option AVal := sliceG P t hg (ev x) (lo.map ev) (hi.map ev) (mx.map ev)
def strOfG (P : Program) (s d : TypeId) (hg : HGet) (x : AVal) : Option AVal :=
  match P.underlying s, P.underlying d with
  | some (.slice e), some .string =>
    match P.underlying e, x with
    | some (.int .u8), .nils => some (.str [])
    | some (.int .u8), .list sz rows _ => if sz = 1 then (bytesOf? rows).map .str else none
    | some (.int .u8), .sl sz b off len _ _ =>
      if sz = 1 then
        match hg b with
        | some (some (.cells cs)) => if off + len ≤ cs.length then (bytesOf? (chunk 1 len (cs.drop off))).map .str else none
        | _ => none
      else none
    | _, _ => none
  | _, _ => none
def qConv (P : Program) (hg : HGet) (s d : TypeId) (x : AVal) : Option AVal :=
  match convA P s d x with
  | some v => some v
  | none => strOfG P s d hg x
def qExtract (ev : Operand → AVal) (x : Operand) (i : Nat) : Option AVal :=
  match ev x with
  | .tup vs => vs[i]?
  | _ => none
def qLen (P : Program) (ev : Operand → AVal) (hg : HGet) (args : Array Operand) (ts : Array TypeId) : Option AVal :=
  match ts[0]?, args[0]? with
  | some t, some x => lenG P t hg (ev x)
  | _, _ => none
def qMin (ev : Operand → AVal) (args : Array Operand) : Option AVal :=
  match args.toList.map ev with
  | [.int k x, .int _ y] => some (.int k (if y < x then y else x))
  | _ => none
def qMax (ev : Operand → AVal) (args : Array Operand) : Option AVal :=
  match args.toList.map ev with
  | [.int k x, .int _ y] => some (.int k (if x < y then y else x))
  | _ => none
def qBuiltin (P : Program) (ev : Operand → AVal) (hg : HGet) (b : Builtin) (args : Array Operand) (ts : Array TypeId) : Option AVal :=
  match b with
  | .len => qLen P ev hg args ts
  | .min => qMin ev args
  | .max => qMax ev args
  | _ => none
def qCall (P : Program) (ev : Operand → AVal) (hg : HGet) (c : Call) : Option AVal :=
  match c.callee with
  | .builtin b => qBuiltin P ev hg b c.args c.argTypes
  | _ => none

def quietG (S : AStat) (ev : Operand → AVal) (hg : HGet) (o : Op) : Option AVal :=
  match o with
  | .move x => some (ev x)
  | .assign x => some (ev x)
  | .pick c a b => qPick ev c a b
  | .build t parts => qBuild S.P ev t parts
  | .load t x => loadG S.P t hg (ev x)
  | .nilCheck x => nilCheckA (ev x)
  | .binOp op t x y _ => qBin S.P ev op t x y
  | .unOp op _ x => unA op (ev x)
  | .convert s d x => qConv S.P hg s d (ev x)
  | .makeInterface t x => qIface S.P ev t x
  | .makeFunc f first captured => qFunc ev f first captured
  | .slice t x lo hi mx => qSlice S.P ev hg t x lo hi mx
  | .fieldAddr t x f => fieldAddrA S.P t (ev x) f
  | .field t x f => fieldA S.P t (ev x) f
  | .indexAddr t x i => indexAddrA S.P t (ev x) (ev i)
  | .index t x i => indexA S.P t (ev x) (ev i)
  | .lookup t m x ok => lookupG S.P t hg (ev m) (ev x) ok
  | .extract x i => qExtract ev x i
  | .call c => qCall S.P ev hg c
  | .typeAssert x _ t ok => typeAssertA S.P (ev x) t ok
  | _ => none

theorem quietG_eq (S : AStat) (ρ : List AVal) (H : Heap) (o : Op) : quietG S (evalA S ρ) (fun b => H[b]?) o = quietA S ρ H o := by
  cases o with
  | load t x => simp only [quietG, quietA, loadG, loadA, atG_eq]
  | slice t x lo hi mx => simp only [quietG, quietA, qSlice, sliceG_eq]
  | call c =>
    obtain ⟨callee, args, ts⟩ := c
    cases callee with
    | value f => rfl
    | invoke r n => rfl
    | builtin b => cases b <;> rfl
  | _ => rfl

def readsG (ev : Operand → AVal) : Op → Option Nat
  | .load _ x => blkOf (ev x)
  | .lookup _ m _ _ => blkOf (ev m)
  | .slice _ x _ _ _ => blkOf (ev x)
  | .convert _ _ x => slBlk (ev x)
  | .call { callee := .builtin .len, args := args, .. } =>
    match args[0]? with
    | some x => match ev x with
      | .mapr b => some b
      | _ => none
    | none => none
  | _ => none
theorem readsG_eq (S : AStat) (ρ : List AVal) (o : Op) : readsG (evalA S ρ) o = readsA S ρ o := by
  cases o with
  | call c =>
    obtain ⟨callee, args, ts⟩ := c
    cases callee with
    | value f => rfl
    | invoke r n => rfl
    | builtin b => cases b <;> rfl
  | _ => rfl

def touchG (S : AStat) (ev : Operand → AVal) : Op → Option (List Nat)
  | .store _ x _ => some (blkOf (ev x)).toList
  | .mapUpdate _ m _ _ => some (blkOf (ev m)).toList
  | .insert _ m _ _ => some (blkOf (ev m)).toList
  | .call { callee := .builtin .append, args := args, .. } =>
    match args[0]? with
    | some x => match ev x with
      | .sl _ b _ _ _ _ => some [b]
      | _ => some []
    | none => none
  | .call { callee := .value f, .. } =>
    match ev f with
    | .fn (.func g) _ _ => if (S.hook g).isNone && (S.pol g == .pure || S.pol g == .fresh) then some [] else none
    | _ => none
  | _ => none
theorem touchG_eq (S : AStat) (ρ : List AVal) (o : Op) : touchG S (evalA S ρ) o = touchA S ρ o := by
  cases o with
  | call c =>
    obtain ⟨callee, args, ts⟩ := c
    cases callee with
    | value f => rfl
    | invoke r n => rfl
    | builtin b => cases b <;> rfl
  | _ => rfl

/-! ### The run -/
noncomputable def evalF (S : AStat) (r : Rg) : Operand → AVal
  | .tmp t => r.get t
  | .const v => constA v
  | .global g => match S.glob g with
    | some cs => .ipt cs
    | none => .junk
  | .func f => .fn (.func f) [] []
theorem evalF_eq (S : AStat) {r : Rg} (h : r.Ok) : evalF S r = evalA S r.toL := by
  funext x
  cases x with
  | tmp t => exact (Rg.get_toL h t).symm
  | _ => rfl

theorem getF_eq {h : Hp} (ho : h.Ok) : h.get = fun b => h.toL[b]? := funext fun b => (Hp.get_toL ho b).symm

abbrev CallT := Nat → FuncId → List AVal → Hp → Option (AVal × Hp)
abbrev ExecT := Nat → Code → Rg → Hp → Option (AExit × Rg × Hp)

def CallSim (ct : CallT) (cl : CallF) : Prop := ∀ lo f args h r h', h.Ok → ct lo f args h = some (r, h') → h'.Ok ∧ cl lo f args h.toL = some (r, h'.toL)
def ExecSim (rt : ExecT) (rl : ExecF) : Prop := ∀ lo c r h x r' h', r.Ok → h.Ok → rt lo c r h = some (x, r', h') → r'.Ok ∧ h'.Ok ∧ rl lo c r.toL h.toL = some (x, r'.toL, h'.toL)

noncomputable def guardF (ops : List Oper) (r : Rg) (o : Oper) : Option Bool :=
  match o.guard with
  | none => some true
  | some (j, want) =>
    match (ops[j]?).bind (·.dst) with
    | none => some false
    | some d =>
      match r.get? d with
      | none => some false
      | some (.bool b) => some (b == want)
      | some .junk => none
      | some _ => some false
theorem guardF_eq {ops : List Oper} {r : Rg} (h : r.Ok) (o : Oper) : guardF ops r o = guardA ops r.toL o := by
  unfold guardF guardA
  cases o.guard with
  | none => rfl
  | some p =>
    obtain ⟨j, w⟩ := p
    simp only
    cases (ops[j]?).bind (·.dst) with
    | none => rfl
    | some d =>
      simp only [Rg.get?_toL h]
      rfl

noncomputable def putF (r : Rg) (dst : Option Tmp) (v : AVal) : Rg :=
  match dst with
  | some d => r.set d v
  | none => r
theorem putF_ok {r : Rg} (h : r.Ok) (dst : Option Tmp) (v : AVal) : (putF r dst v).Ok ∧ (putF r dst v).toL = putA r.toL dst v := by
  cases dst with
  | none => exact ⟨h, rfl⟩
  | some d => exact ⟨Rg.set_ok h d v, Rg.set_toL h d v⟩

noncomputable def eStore (S : AStat) (lo : Nat) (r : Rg) (h : Hp) (t : TypeId) (x v : Operand) : Option (AVal × Hp) :=
  (storeG S.P lo t h.get (evalF S r x) (evalF S r v)).bind fun e => (e.onH h).map fun h' => (undefA, h')
noncomputable def eUpdate (S : AStat) (lo : Nat) (r : Rg) (h : Hp) (t : TypeId) (m k v : Operand) : Option (AVal × Hp) :=
  (mapUpdateG S.P lo t h.get (evalF S r m) (evalF S r k) (evalF S r v)).bind fun e => (e.onH h).map fun h' => (undefA, h')
noncomputable def eAppend (S : AStat) (lo : Nat) (r : Rg) (h : Hp) (args : Array Operand) (ts : Array TypeId) : Option (AVal × Hp) :=
  match args.toList.map (evalF S r), ts.toList with
  | [s, x], [t, u] => (appendG S.P lo t u h.n h.get s x).bind fun e => (e.2.onH h).map fun h' => (e.1, h')
  | _, _ => none
noncomputable def eCall (S : AStat) (call : CallT) (lo : Nat) (r : Rg) (h : Hp) (f : Operand) (args : Array Operand) : Option (AVal × Hp) :=
  match evalF S r f with
  | .fn (.func g) first captured =>
    match S.ext g (first ++ args.toList.map (evalF S r) ++ captured) with
    | some v => some (v, h)
    | none => call lo g (first ++ args.toList.map (evalF S r) ++ captured) h
  | _ => none
noncomputable def eInvoke (S : AStat) (call : CallT) (lo : Nat) (r : Rg) (h : Hp) (x : Operand) (name : String) (args : Array Operand) : Option (AVal × Hp) :=
  match evalF S r x with
  | .iface t v =>
    match S.meth t name, nk v with
    | some g, some (.p, _) => call lo g (v :: args.toList.map (evalF S r)) h
    | _, _ => match S.methV t name v with
      | some (g, v') => (S.ext g (v' :: args.toList.map (evalF S r))).map fun y => (y, h)
      | none => none
  | _ => none
noncomputable def eBuiltin (S : AStat) (lo : Nat) (r : Rg) (h : Hp) (b : Builtin) (args : Array Operand) (ts : Array TypeId) : Option (AVal × Hp) :=
  match b with
  | .append => eAppend S lo r h args ts
  | _ => none
noncomputable def eAny (S : AStat) (call : CallT) (lo : Nat) (r : Rg) (h : Hp) (c : Call) : Option (AVal × Hp) :=
  match c.callee with
  | .builtin b => eBuiltin S lo r h b c.args c.argTypes
  | .value f => eCall S call lo r h f c.args
  | .invoke x name => eInvoke S call lo r h x name c.args
noncomputable def effF (S : AStat) (call : CallT) (lo : Nat) (r : Rg) (h : Hp) (o : Op) : Option (AVal × Hp) :=
  match o with
  | .store t x v => eStore S lo r h t x v
  | .mapUpdate t m k v => eUpdate S lo r h t m k v
  | .insert t m k v => eUpdate S lo r h t m k v
  | .call c => eAny S call lo r h c
  | _ => none

theorem ed_map {x : Option Ed} {h h' : Hp} (ho : h.Ok) {v u : AVal} (e : (x.bind fun e => (e.onH h).map fun h' => (v, h')) = some (u, h')) :
    u = v ∧ h'.Ok ∧ x.map (Ed.onL h.toL) = some h'.toL := by
  rw [Option.bind_eq_some_iff] at e
  obtain ⟨ed, rfl, e⟩ := e
  rw [Option.map_eq_some_iff] at e
  obtain ⟨h1, h2, h3⟩ := e
  simp only [Prod.mk.injEq] at h3
  obtain ⟨rfl, rfl⟩ := h3
  obtain ⟨k1, k2⟩ := Ed.on_ok ho h2
  exact ⟨rfl, k1, by simp [k2]⟩

theorem effF_ok {S : AStat} {ct : CallT} {cl : CallF} (hc : CallSim ct cl) {lo : Nat} {r : Rg} {h h' : Hp} (hr : r.Ok) (ho : h.Ok) {op : Op} {v : AVal} (e : effF S ct lo r h op = some (v, h')) :
    h'.Ok ∧ effA S cl lo r.toL h.toL op = some (v, h'.toL) := by
  unfold effF at e
  split at e
  · unfold eStore at e
    rw [evalF_eq S hr, getF_eq ho] at e
    obtain ⟨rfl, h1, h2⟩ := ed_map ho e
    rw [storeG_eq] at h2
    exact ⟨h1, by simp only [effA, h2, Option.map_some]⟩
  · unfold eUpdate at e
    rw [evalF_eq S hr, getF_eq ho] at e
    obtain ⟨rfl, h1, h2⟩ := ed_map ho e
    rw [mapUpdateG_eq] at h2
    exact ⟨h1, by simp only [effA, h2, Option.map_some]⟩
  · unfold eUpdate at e
    rw [evalF_eq S hr, getF_eq ho] at e
    obtain ⟨rfl, h1, h2⟩ := ed_map ho e
    rw [mapUpdateG_eq] at h2
    exact ⟨h1, by simp only [effA, h2, Option.map_some]⟩
  · rename_i cl
    obtain ⟨callee, args, ts⟩ := cl
    unfold eAny at e
    simp only at e
    cases callee with
    | builtin b =>
      simp only [eBuiltin] at e
      split at e <;> first | (cases e; done) | skip
      unfold eAppend at e
      rw [evalF_eq S hr, getF_eq ho] at e
      split at e
      · rename_i s x t u e1 e2
        rw [Option.bind_eq_some_iff] at e
        obtain ⟨ed, h1, e⟩ := e
        rw [Option.map_eq_some_iff] at e
        obtain ⟨h2, h3, h4⟩ := e
        simp only [Prod.mk.injEq] at h4
        obtain ⟨rfl, rfl⟩ := h4
        obtain ⟨k1, k2⟩ := Ed.on_ok ho h3
        refine ⟨k1, ?_⟩
        have := appendG_eq S.P lo t u h.toL s x
        rw [Hp.length_toL, h1] at this
        simp only [effA, e1, e2, ← this, Option.map_some, k2]
      · cases e
    | value f =>
      unfold eCall at e
      rw [evalF_eq S hr] at e
      simp only at e
      split at e
      · rename_i g first captured e1
        simp only [effA, e1]
        split at e
        · rename_i w hw
          simp only [Option.some.injEq, Prod.mk.injEq] at e
          obtain ⟨rfl, rfl⟩ := e
          exact ⟨ho, by rw [hw]⟩
        · rename_i hw
          obtain ⟨k1, k2⟩ := hc _ _ _ _ _ _ ho e
          exact ⟨k1, by rw [hw]; exact k2⟩
      · cases e
    | invoke x name =>
      unfold eInvoke at e
      rw [evalF_eq S hr] at e
      simp only at e
      split at e
      · rename_i t w e1
        simp only [effA, e1]
        split at e
        · rename_i g nb hm hn
          obtain ⟨k1, k2⟩ := hc _ _ _ _ _ _ ho e
          exact ⟨k1, by rw [hm, hn]; exact k2⟩
        · rename_i hne
          split at e
          · rename_i g w1 hm
            rw [Option.map_eq_some_iff] at e
            obtain ⟨y, h1, h2⟩ := e
            simp only [Prod.mk.injEq] at h2
            obtain ⟨rfl, rfl⟩ := h2
            refine ⟨ho, ?_⟩
            split
            · rename_i h3 h4
              exact (hne _ _ h3 h4).elim
            · rw [hm]
              simp only [h1, Option.map_some]
          · cases e
      · cases e
  · cases e

noncomputable def opF (S : AStat) (call : CallT) (lo : Nat) (r : Rg) (h : Hp) (o : Oper) : Option (AVal × Hp) :=
  match quietG S (evalF S r) h.get o.op with
  | some v => some (v, h)
  | none =>
    match newG S (evalF S r) o.op with
    | some (blk, mk) => (h.push (some blk)).map fun h' => (mk h.n, h')
    | none => effF S call lo r h o.op
theorem opF_ok {S : AStat} {ct : CallT} {cl : CallF} (hc : CallSim ct cl) {lo : Nat} {r : Rg} {h h' : Hp} (hr : r.Ok) (ho : h.Ok) {o : Oper} {v : AVal} (e : opF S ct lo r h o = some (v, h')) :
    h'.Ok ∧ opA S cl lo r.toL h.toL o = some (v, h'.toL) := by
  unfold opF at e
  unfold opA
  rw [← quietG_eq, ← newG_eq, ← evalF_eq S hr, ← getF_eq ho]
  split at e
  · rename_i w hw
    simp only [Option.some.injEq, Prod.mk.injEq] at e
    obtain ⟨rfl, rfl⟩ := e
    exact ⟨ho, by rw [hw]⟩
  · rename_i hw
    simp only [hw]
    split at e
    · rename_i blk mk hn
      rw [Option.map_eq_some_iff] at e
      obtain ⟨h1, h2, h3⟩ := e
      simp only [Prod.mk.injEq] at h3
      obtain ⟨rfl, rfl⟩ := h3
      obtain ⟨k1, k2⟩ := Hp.push_ok ho h2
      exact ⟨k1, by simp only [hn, k2, Hp.length_toL]⟩
    · rename_i hn
      obtain ⟨k1, k2⟩ := effF_ok hc hr ho e
      exact ⟨k1, by simp only [hn, k2]⟩

noncomputable def opsF (S : AStat) (call : CallT) (lo : Nat) (ops : List Oper) : List Oper → Rg → Hp → Option (Rg × Hp)
  | [], r, h => some (r, h)
  | o :: rest, r, h =>
    match guardF ops r o with
    | none => none
    | some false => opsF S call lo ops rest (putF r o.dst undefA) h
    | some true =>
      match opF S call lo r h o with
      | none => none
      | some (v, h') => opsF S call lo ops rest (putF r o.dst v) h'
theorem opsF_ok {S : AStat} {ct : CallT} {cl : CallF} (hc : CallSim ct cl) {lo : Nat} {ops : List Oper} : ∀ {l : List Oper} {r r' : Rg} {h h' : Hp}, r.Ok → h.Ok → opsF S ct lo ops l r h = some (r', h') →
    r'.Ok ∧ h'.Ok ∧ opsA S cl lo ops l r.toL h.toL = some (r'.toL, h'.toL)
  | [], r, r', h, h', hr, ho, e => by
    simp only [opsF, Option.some.injEq, Prod.mk.injEq] at e
    obtain ⟨rfl, rfl⟩ := e
    exact ⟨hr, ho, rfl⟩
  | o :: l, r, r', h, h', hr, ho, e => by
    simp only [opsF, guardF_eq hr] at e
    simp only [opsA]
    split at e
    · cases e
    · rename_i hg
      obtain ⟨k1, k2⟩ := putF_ok hr o.dst undefA
      simp only [hg]
      rw [← k2]
      exact opsF_ok hc k1 ho e
    · rename_i hg
      simp only [hg]
      split at e
      · cases e
      · rename_i v h1 hop
        obtain ⟨m1, m2⟩ := opF_ok hc hr ho hop
        obtain ⟨k1, k2⟩ := putF_ok hr o.dst v
        simp only [m2]
        rw [← k2]
        exact opsF_ok hc k1 m1 e

noncomputable def hideF (h : Hp) : List Nat → Hp
  | [] => h
  | b :: bs => hideF (h.set b none) bs
noncomputable def unhideF (h0 h : Hp) : List Nat → Hp
  | [] => h
  | b :: bs => unhideF h0 (h.set b ((h0.get b).getD none)) bs
theorem hideF_ok : ∀ (bs : List Nat) {h : Hp}, h.Ok → (hideF h bs).Ok ∧ (hideF h bs).toL = hide h.toL bs
  | [], _, ho => ⟨ho, rfl⟩
  | b :: bs, h, ho => by
    have := hideF_ok bs (Hp.set_ok ho b none)
    rw [Hp.set_toL ho] at this
    exact this
theorem unhideF_ok {h0 : Hp} (h0o : h0.Ok) : ∀ (bs : List Nat) {h : Hp}, h.Ok → (unhideF h0 h bs).Ok ∧ (unhideF h0 h bs).toL = unhide h0.toL h.toL bs
  | [], _, ho => ⟨ho, rfl⟩
  | b :: bs, h, ho => by
    have := unhideF_ok h0o bs (Hp.set_ok ho b ((h0.get b).getD none))
    rw [Hp.set_toL ho] at this
    refine ⟨this.1, ?_⟩
    show (unhideF h0 (h.set b ((h0.get b).getD none)) bs).toL = unhide h0.toL (h.toL.set b (h0.toL.getD b none)) bs
    rw [this.2, List.getD_eq_getElem?_getD, Hp.get_toL h0o]

structure DrawOutF where
  reads : List (Nat × Nat)
  touches : List (Nat × Option (List Nat))
  r : Rg
  h : Hp

noncomputable def drawGoF (S : AStat) (call : CallT) (lo n0 : Nat) (ops : Array Oper) (B : List Nat) : List Oper → Nat → Rg → Hp → Option DrawOutF
  | [], _, r, h => some ⟨[], [], r, h⟩
  | o :: rest, k, r, h =>
    match guardF ops.toList r o with
    | none => none
    | some false => drawGoF S call lo n0 ops B rest (k + 1) (putF r o.dst undefA) h
    | some true =>
      if isNewB o.op then
        match newG S (evalF S r) o.op with
        | none => none
        | some (blk, mk) =>
          match h.get (n0 + k) with
          | some none => drawGoF S call lo n0 ops B rest (k + 1) (putF r o.dst (mk (n0 + k))) (h.set (n0 + k) (some blk))
          | _ => none
      else if isEffB o.op then
        match effF S call lo r (hideF h (hidden ops B n0 k)) o.op with
        | none => none
        | some (v, h') =>
          if h.n ≤ h'.n then
            match drawGoF S call lo n0 ops B rest (k + 1) (putF r o.dst v) (unhideF h h' (hidden ops B n0 k)) with
            | none => none
            | some x => some { x with touches := (k, touchG S (evalF S r) o.op) :: x.touches }
          else none
      else
        match quietG S (evalF S r) h.get o.op with
        | none => none
        | some v =>
          match drawGoF S call lo n0 ops B rest (k + 1) (putF r o.dst v) h with
          | none => none
          | some x =>
            match readsG (evalF S r) o.op with
            | none => some x
            | some b => some { x with reads := (k, b) :: x.reads }

def DrawOutF.Ok (x : DrawOutF) : Prop := x.r.Ok ∧ x.h.Ok
noncomputable def DrawOutF.toL (x : DrawOutF) : DrawOut := ⟨x.reads, x.touches, x.r.toL, x.h.toL⟩

theorem drawGoF_ok {S : AStat} {ct : CallT} {cl : CallF} (hc : CallSim ct cl) {lo n0 : Nat} {ops : Array Oper} {B : List Nat} : ∀ {l : List Oper} {k : Nat} {r : Rg} {h : Hp} {x : DrawOutF}, r.Ok → h.Ok → drawGoF S ct lo n0 ops B l k r h = some x →
    x.Ok ∧ drawGo S cl lo n0 ops B l k r.toL h.toL = some x.toL
  | [], k, r, h, x, hr, ho, e => by
    simp only [drawGoF, Option.some.injEq] at e
    subst e
    exact ⟨⟨hr, ho⟩, rfl⟩
  | o :: l, k, r, h, x, hr, ho, e => by
    simp only [drawGoF, guardF_eq hr] at e
    simp only [drawGo]
    split at e
    · cases e
    · rename_i hg
      obtain ⟨k1, k2⟩ := putF_ok hr o.dst undefA
      simp only [hg]
      rw [← k2]
      exact drawGoF_ok hc k1 ho e
    · rename_i hg
      simp only [hg]
      split at e
      · rename_i hn
        rw [if_pos hn]
        split at e
        · cases e
        · rename_i blk mk hnew
          rw [evalF_eq S hr, newG_eq] at hnew
          simp only [hnew]
          rw [Hp.get_toL ho]
          split at e
          · rename_i hh
            simp only [hh]
            obtain ⟨k1, k2⟩ := putF_ok hr o.dst (mk (n0 + k))
            rw [← k2, ← Hp.set_toL ho]
            exact drawGoF_ok hc k1 (Hp.set_ok ho _ _) e
          · cases e
      · rename_i hn
        rw [if_neg hn]
        split at e
        · rename_i he
          rw [if_pos he]
          split at e
          · cases e
          · rename_i v h1 heff
            obtain ⟨g1, g2⟩ := hideF_ok (hidden ops B n0 k) ho
            obtain ⟨g3, g4⟩ := effF_ok hc hr g1 heff
            rw [g2] at g4
            simp only [g4]
            split at e
            · rename_i hle
              rw [if_pos (by rw [Hp.length_toL, Hp.length_toL]; exact hle)]
              split at e
              · cases e
              · rename_i x1 hx1
                simp only [Option.some.injEq] at e
                subst e
                obtain ⟨g5, g6⟩ := unhideF_ok ho (hidden ops B n0 k) g3
                obtain ⟨k1, k2⟩ := putF_ok hr o.dst v
                obtain ⟨g7, g8⟩ := drawGoF_ok hc k1 g5 hx1
                rw [k2, g6] at g8
                refine ⟨g7, ?_⟩
                simp only [g8, DrawOutF.toL]
                rw [evalF_eq S hr, touchG_eq]
            · cases e
        · rename_i he
          rw [if_neg he]
          split at e
          · cases e
          · rename_i v hq
            rw [evalF_eq S hr, getF_eq ho, quietG_eq] at hq
            simp only [hq]
            split at e
            · cases e
            · rename_i x1 hx1
              obtain ⟨k1, k2⟩ := putF_ok hr o.dst v
              obtain ⟨g7, g8⟩ := drawGoF_ok hc k1 ho hx1
              rw [k2] at g8
              simp only [g8]
              rw [evalF_eq S hr, readsG_eq] at e
              split at e
              · rename_i hrd
                simp only [Option.some.injEq] at e
                subst e
                exact ⟨g7, by simp only [hrd]⟩
              · rename_i b hrd
                simp only [Option.some.injEq] at e
                subst e
                exact ⟨g7, by simp only [hrd, DrawOutF.toL]⟩

noncomputable def drawF (S : AStat) (call : CallT) (lo : Nat) (ops : Array Oper) (r : Rg) (h : Hp) : Option (Rg × Hp) :=
  let B := befs ops.toList []
  if regionOk ops B && decide (lo ≤ h.n) then
    match (if ops.any (fun o => isNewB o.op) then h.more ops.size else some h) with
    | none => none
    | some h1 =>
      match drawGoF S call lo h.n ops B ops.toList 0 r h1 with
      | none => none
      | some x => if apartB B x.reads x.touches then some (x.r, x.h) else none
  else none
theorem drawF_ok {S : AStat} {ct : CallT} {cl : CallF} (hc : CallSim ct cl) {lo : Nat} {ops : Array Oper} {r r' : Rg} {h h' : Hp} (hr : r.Ok) (ho : h.Ok) (e : drawF S ct lo ops r h = some (r', h')) :
    r'.Ok ∧ h'.Ok ∧ drawA S cl lo ops r.toL h.toL = some (r'.toL, h'.toL) := by
  unfold drawF at e
  unfold drawA
  simp only at e ⊢
  split at e
  · rename_i hcond
    rw [Hp.length_toL, if_pos hcond]
    split at e
    · cases e
    · rename_i h1 hh1
      have key : h1.Ok ∧ h1.toL = (if ops.any (fun o => isNewB o.op) then h.toL ++ List.replicate ops.size none else h.toL) := by
        split at hh1
        · rename_i ha
          rw [if_pos ha]
          exact Hp.more_ok ho hh1
        · rename_i ha
          rw [if_neg ha]
          simp only [Option.some.injEq] at hh1
          subst hh1
          exact ⟨ho, rfl⟩
      rw [← key.2]
      split at e
      · cases e
      · rename_i x hx
        obtain ⟨⟨k1, k2⟩, k3⟩ := drawGoF_ok hc hr key.1 hx
        simp only [k3]
        split at e
        · rename_i ha
          simp only [Option.some.injEq, Prod.mk.injEq] at e
          obtain ⟨rfl, rfl⟩ := e
          exact ⟨k1, k2, if_pos ha⟩
        · cases e
  · cases e

def frzG (n0 : Nat) (hg : HGet) : Bool → Nat → AVal → Option AVal
  | _, 0, _ => none
  | top, k + 1, a =>
    match a with
    | .agg cs => (frzs (frzG n0 hg top k) cs).map .agg
    | .tup cs => (frzs (frzG n0 hg top k) cs).map .tup
    | .iface t v => (frzG n0 hg top k v).map (.iface t)
    | .fn f x y => match frzs (frzG n0 hg top k) x, frzs (frzG n0 hg top k) y with
      | some x', some y' => some (.fn f x' y')
      | _, _ => none
    | .ptr b off =>
      if b < n0 then (if top then some (.ptr b off) else none) else
      match hg b with
      | some (some (.cells cs)) => (frzs (frzG n0 hg false k) (cs.drop off)).map .ipt
      | _ => none
    | .sl sz b off len cap ex =>
      if b < n0 then (if top then some (.sl sz b off len cap ex) else none) else
      match hg b with
      | some (some (.cells cs)) =>
        if off + len * sz ≤ cs.length then (frzss (frzG n0 hg false k) (chunk sz len (cs.drop off))).map fun rows => .list sz rows (ex && cap == len) else none
      | _ => none
    | .mapr b => if b < n0 ∧ top then some (.mapr b) else none
    | a => some a

theorem frzG_eq (n0 : Nat) (H : Heap) : ∀ (k : Nat) (top : Bool), frzG n0 (fun b => H[b]?) top k = frz n0 H top k
  | 0, top => by funext a; simp only [frzG, frz]
  | k + 1, top => by
    funext a
    cases a <;> simp only [frzG, frz, frzG_eq n0 H k top, frzG_eq n0 H k false] <;> rfl

def resultG (S : AStat) (ev : Nat → AVal) (hg : HGet) : ResultVar → Option AVal
  | .tmp t => some (ev t)
  | .cell a t => loadG S.P t hg (ev a)
def resultsG (S : AStat) (ev : Nat → AVal) (hg : HGet) : List ResultVar → Option (List AVal)
  | [] => some []
  | r :: rs =>
    match resultG S ev hg r with
    | none => none
    | some v => match resultsG S ev hg rs with
      | none => none
      | some vs => some (v :: vs)
theorem resultsG_eq (S : AStat) {r : Rg} (hr : r.Ok) {h : Hp} (ho : h.Ok) : ∀ l, resultsG S r.get h.get l = resultsA S r.toL h.toL l
  | [] => rfl
  | x :: xs => by
    have : resultG S r.get h.get x = resultA S r.toL h.toL x := by
      cases x with
      | tmp t => simp only [resultG, resultA, Rg.get_toL hr]
      | cell a t => simp only [resultG, resultA, Rg.get_toL hr, getF_eq ho, loadG, loadA, atG_eq]
    simp only [resultsG, resultsA, this, resultsG_eq S hr ho xs]
    rfl

def Pol.loN (p : Pol) (lo n : Nat) : Nat :=
  match p with
  | .keep => lo
  | .pure => n
  | .fresh => max lo n

noncomputable def finishF (p : Pol) (h0 : Hp) (v : AVal) (h : Hp) : Option (AVal × Hp) :=
  match p with
  | .keep => some (v, h)
  | .pure => (frzG h0.n h.get true 64 v).map fun v' => (v', h0)
  | .fresh => some (v, h)

theorem finishF_ok {p : Pol} {h0 h h' : Hp} {v r : AVal} (ho0 : h0.Ok) (ho : h.Ok) (e : finishF p h0 v h = some (r, h')) : h'.Ok ∧ finish p h0.toL v h.toL = some (r, h'.toL) := by
  cases p with
  | keep =>
    simp only [finishF, Option.some.injEq, Prod.mk.injEq] at e
    obtain ⟨rfl, rfl⟩ := e
    exact ⟨ho, rfl⟩
  | pure =>
    simp only [finishF] at e
    rw [Option.map_eq_some_iff] at e
    obtain ⟨v, e1, e2⟩ := e
    simp only [Prod.mk.injEq] at e2
    obtain ⟨rfl, rfl⟩ := e2
    rw [getF_eq ho, frzG_eq, ← Hp.length_toL] at e1
    exact ⟨ho0, by simp only [finish, e1, Option.map_some]⟩
  | fresh =>
    simp only [finishF, Option.some.injEq, Prod.mk.injEq] at e
    obtain ⟨rfl, rfl⟩ := e
    exact ⟨ho, rfl⟩

abbrev HookT := Nat → List AVal → Hp → Option (AVal × Hp)

noncomputable def callF (S : AStat) (HT : FuncId → Option HookT) (rec : ExecT) : CallT := fun lo f args h =>
  match HT f with
  | some hk => hk lo args h
  | none =>
    match S.P.funcs[f]? with
    | none => none
    | some fn =>
      match fn.body with
      | none => none
      | some body =>
        bif Nat.ble args.length fn.ntmps && Nat.ble fn.ntmps 512 then
          match rec ((S.pol f).loN lo h.n) body (Rg.frame args fn.ntmps) h with
          | none => none
          | some (.exit _, _, _) => none
          | some (_, r, h') =>
            match resultsG S r.get h'.get fn.results.toList with
            | none => none
            | some vs => finishF (S.pol f) h (tupled vs) h'
        else none

/-- Hooks over trees, and over lists. -/
def HookSim (S : AStat) (HT : FuncId → Option HookT) : Prop := ∀ f, match HT f, S.hook f with
  | none, none => True
  | some t, some l => ∀ lo args h r h', h.Ok → t lo args h = some (r, h') → h'.Ok ∧ l lo args h.toL = some (r, h'.toL)
  | _, _ => False

theorem callF_ok {S : AStat} {HT : FuncId → Option HookT} (hH : HookSim S HT) {rt : ExecT} {rl : ExecF} (hs : ExecSim rt rl) : CallSim (callF S HT rt) (callA S rl) := by
  intro lo f args h r h' ho e
  unfold callF at e
  unfold callA
  have hf := hH f
  split at e
  · rename_i hk hhk
    rw [hhk] at hf
    cases hl : S.hook f with
    | none => rw [hl] at hf; exact hf.elim
    | some l =>
      rw [hl] at hf
      exact hf lo args h r h' ho e
  · rename_i hhk
    rw [hhk] at hf
    cases hl : S.hook f with
    | some l => rw [hl] at hf; exact hf.elim
    | none =>
      simp only
      split at e
      · cases e
      · rename_i fn hfn
        simp only [hfn]
        split at e
        · cases e
        · rename_i body hb
          simp only [hb]
          cases hcond : (Nat.ble args.length fn.ntmps && Nat.ble fn.ntmps 512) with
          | false => rw [hcond] at e; cases e
          | true =>
            rw [hcond] at e
            simp only [cond_true] at e
            simp only [Bool.and_eq_true, Nat.ble_eq] at hcond
            split at e
            · cases e
            · cases e
            · rename_i x r1 h1 hne hrec
              obtain ⟨k1, k2, k3⟩ := hs _ _ _ _ _ _ _ (frame_ok args fn.ntmps hcond.2) ho hrec
              rw [frame_toL args fn.ntmps hcond.2 hcond.1] at k3
              have hlo : (S.pol f).loN lo h.n = (S.pol f).lo lo h.toL := by
                cases S.pol f <;> simp only [Pol.loN, Pol.lo, Hp.length_toL]
              rw [hlo] at k3
              simp only [k3]
              rw [resultsG_eq S k1 k2] at e
              cases x with
              | exit i => exact (hne i rfl).elim
              | normal =>
                split at e
                · cases e
                · rename_i vs hvs
                  simp only [hvs]
                  exact finishF_ok ho k2 e
              | ret =>
                split at e
                · cases e
                · rename_i vs hvs
                  simp only [hvs]
                  exact finishF_ok ho k2 e

noncomputable def stSeq (rec : ExecT) (lo : Nat) (a b : Code) (r : Rg) (h : Hp) : Option (AExit × Rg × Hp) :=
  match rec lo a r h with
  | some (.normal, r', h') => rec lo b r' h'
  | x => x
noncomputable def stCond (S : AStat) (rec : ExecT) (lo : Nat) (x : Operand) (a b : Code) (r : Rg) (h : Hp) : Option (AExit × Rg × Hp) :=
  match evalF S r x with
  | .bool true => rec lo a r h
  | .bool false => rec lo b r h
  | _ => none
noncomputable def stBlock (rec : ExecT) (lo id : Nat) (b : Code) (r : Rg) (h : Hp) : Option (AExit × Rg × Hp) :=
  match rec lo b r h with
  | some (.exit i, r', h') => if i = id then some (.normal, r', h') else some (.exit i, r', h')
  | x => x
noncomputable def stLoop (rec : ExecT) (lo : Nat) (b : Code) (r : Rg) (h : Hp) : Option (AExit × Rg × Hp) :=
  match rec lo b r h with
  | some (.normal, r', h') => rec lo (.loop b) r' h'
  | x => x
noncomputable def stRegion (S : AStat) (HT : FuncId → Option HookT) (rec : ExecT) (lo : Nat) (ops : Array Oper) (draw : Bool) (r : Rg) (h : Hp) : Option (AExit × Rg × Hp) :=
  if draw then (drawF S (callF S HT rec) lo ops r h).map fun x => (.normal, x.1, x.2)
  else (opsF S (callF S HT rec) lo ops.toList ops.toList r h).map fun x => (.normal, x.1, x.2)
noncomputable def stepF (S : AStat) (HT : FuncId → Option HookT) (rec : ExecT) : ExecT := fun lo c r h =>
  match c with
  | .skip => some (.normal, r, h)
  | .label _ => some (.normal, r, h)
  | .ret => some (.ret, r, h)
  | .exit id => some (.exit id, r, h)
  | .seq a b => stSeq rec lo a b r h
  | .cond x a b => stCond S rec lo x a b r h
  | .block id b => stBlock rec lo id b r h
  | .loop b => stLoop rec lo b r h
  | .region _ ops draw => stRegion S HT rec lo ops draw r h
  | _ => none

theorem stepF_ok {S : AStat} {HT : FuncId → Option HookT} (hH : HookSim S HT) {rt : ExecT} {rl : ExecF} (hs : ExecSim rt rl) : ExecSim (stepF S HT rt) (stepA S rl) := by
  intro lo c r h x r' h' hr ho e
  have triv : ∀ {y : AExit}, some (y, r, h) = some (x, r', h') → r'.Ok ∧ h'.Ok ∧ (some (y, r.toL, h.toL) : Option (AExit × List AVal × Heap)) = some (x, r'.toL, h'.toL) := by
    intro y hy
    simp only [Option.some.injEq, Prod.mk.injEq] at hy
    obtain ⟨rfl, rfl, rfl⟩ := hy
    exact ⟨hr, ho, rfl⟩
  unfold stepF at e
  unfold stepA
  split at e
  · exact triv e
  · exact triv e
  · exact triv e
  · exact triv e
  · rename_i a b
    unfold stSeq at e
    simp only
    split at e
    · rename_i r1 h1 e1
      obtain ⟨k1, k2, k3⟩ := hs _ _ _ _ _ _ _ hr ho e1
      simp only [k3]
      exact hs _ _ _ _ _ _ _ k1 k2 e
    · rename_i hne
      obtain ⟨k1, k2, k3⟩ := hs _ _ _ _ _ _ _ hr ho e
      refine ⟨k1, k2, ?_⟩
      simp only [k3]
      cases x with
      | normal => exact (hne _ _ e).elim
      | _ => rfl
  · rename_i y a b
    unfold stCond at e
    rw [evalF_eq S hr] at e
    simp only
    split at e
    · rename_i hy
      simp only [hy]
      exact hs _ _ _ _ _ _ _ hr ho e
    · rename_i hy
      simp only [hy]
      exact hs _ _ _ _ _ _ _ hr ho e
    · cases e
  · rename_i id b
    unfold stBlock at e
    simp only
    split at e
    · rename_i i r1 h1 e1
      obtain ⟨k1, k2, k3⟩ := hs _ _ _ _ _ _ _ hr ho e1
      simp only [k3]
      split at e
      · rename_i hi
        simp only [Option.some.injEq, Prod.mk.injEq] at e
        obtain ⟨rfl, rfl, rfl⟩ := e
        exact ⟨k1, k2, by rw [if_pos hi]⟩
      · rename_i hi
        simp only [Option.some.injEq, Prod.mk.injEq] at e
        obtain ⟨rfl, rfl, rfl⟩ := e
        exact ⟨k1, k2, by rw [if_neg hi]⟩
    · rename_i hne
      obtain ⟨k1, k2, k3⟩ := hs _ _ _ _ _ _ _ hr ho e
      refine ⟨k1, k2, ?_⟩
      simp only [k3]
      cases x with
      | exit i => exact (hne _ _ _ e).elim
      | _ => rfl
  · rename_i b
    unfold stLoop at e
    simp only
    split at e
    · rename_i r1 h1 e1
      obtain ⟨k1, k2, k3⟩ := hs _ _ _ _ _ _ _ hr ho e1
      simp only [k3]
      exact hs _ _ _ _ _ _ _ k1 k2 e
    · rename_i hne
      obtain ⟨k1, k2, k3⟩ := hs _ _ _ _ _ _ _ hr ho e
      refine ⟨k1, k2, ?_⟩
      simp only [k3]
      cases x with
      | normal => exact (hne _ _ e).elim
      | _ => rfl
  · rename_i id ops draw
    unfold stRegion at e
    simp only
    split at e
    · rename_i hd
      rw [Option.map_eq_some_iff] at e
      obtain ⟨⟨r1, h1⟩, e1, e2⟩ := e
      simp only [Prod.mk.injEq] at e2
      obtain ⟨rfl, rfl, rfl⟩ := e2
      obtain ⟨k1, k2, k3⟩ := drawF_ok (callF_ok hH hs) hr ho e1
      exact ⟨k1, k2, by rw [if_pos hd, k3]; rfl⟩
    · rename_i hd
      rw [Option.map_eq_some_iff] at e
      obtain ⟨⟨r1, h1⟩, e1, e2⟩ := e
      simp only [Prod.mk.injEq] at e2
      obtain ⟨rfl, rfl, rfl⟩ := e2
      obtain ⟨k1, k2, k3⟩ := opsF_ok (callF_ok hH hs) hr ho e1
      exact ⟨k1, k2, by rw [if_neg hd, k3]; rfl⟩
  · cases e

noncomputable def execF (S : AStat) (HT : FuncId → Option HookT) (n : Nat) : ExecT := Nat.rec (fun _ _ _ _ => none) (fun _ ih => stepF S HT ih) n
theorem execF_ok {S : AStat} {HT : FuncId → Option HookT} (hH : HookSim S HT) : ∀ n, ExecSim (execF S HT n) (execA S n)
  | 0 => fun _ _ _ _ _ _ _ _ _ e => by cases e
  | n + 1 => stepF_ok hH (execF_ok hH n)

noncomputable def runF (S : AStat) (HT : FuncId → Option HookT) (n : Nat) : CallT := callF S HT (execF S HT n)
/-- A run over trees is a run over lists. -/
theorem runF_ok {S : AStat} {HT : FuncId → Option HookT} (hH : HookSim S HT) (n : Nat) {f : FuncId} {args : List AVal} {v : AVal} (e : (runF S HT n 0 f args Hp.empty).map (·.1) = some v) : ∃ H', runA S n 0 f args [] = some (v, H') := by
  rw [Option.map_eq_some_iff] at e
  obtain ⟨⟨v', h'⟩, e, rfl⟩ := e
  obtain ⟨_, k⟩ := callF_ok hH (execF_ok hH n) 0 f args Hp.empty v' h' Hp.empty_ok e
  rw [Hp.empty_toL] at k
  exact ⟨_, k⟩

end Go.Am

/- A run over trees in two parts: between them what a cell or a block holds may go by another name. Generic: over any program. -/
namespace Go.Am

structure St3 where
  l : List Code
  r : Rg
  h : Hp
def St3.Ok (s : St3) : Prop := s.r.Ok ∧ s.h.Ok

noncomputable def headsF (S : AStat) (HT : FuncId → Option HookT) (lo N : Nat) : Nat → List Code → Rg → Hp → Option St3
  | 0, l, r, h => some ⟨l, r, h⟩
  | k + 1, c :: l, r, h => match execF S HT N lo c r h with
    | some (.normal, r', h') => headsF S HT lo N k l r' h'
    | _ => none
  | _ + 1, [], _, _ => none

theorem headsF_ok {S : AStat} {HT : FuncId → Option HookT} (hH : HookSim S HT) {lo N : Nat} : ∀ {k : Nat} {l : List Code} {r : Rg} {h : Hp} {s : St3}, r.Ok → h.Ok → headsF S HT lo N k l r h = some s →
    s.Ok ∧ headsA S lo N k l r.toL h.toL = some (s.l, s.r.toL, s.h.toL)
  | 0, l, r, h, s, hr, ho, e => by
    simp only [headsF, Option.some.injEq] at e
    subst e
    exact ⟨⟨hr, ho⟩, rfl⟩
  | k + 1, [], r, h, s, hr, ho, e => by cases e
  | k + 1, c :: l, r, h, s, hr, ho, e => by
    simp only [headsF] at e
    split at e
    · rename_i r1 h1 e1
      obtain ⟨k1, k2, k3⟩ := execF_ok hH N _ _ _ _ _ _ _ hr ho e1
      simp only [headsA, k3]
      exact headsF_ok hH k1 k2 e
    · cases e

noncomputable def execLF (S : AStat) (HT : FuncId → Option HookT) (N lo : Nat) : List Code → Rg → Hp → Option (AExit × Rg × Hp)
  | [], r, h => some (.normal, r, h)
  | c :: l, r, h => match execF S HT N lo c r h with
    | some (.normal, r', h') => execLF S HT N lo l r' h'
    | x => x

theorem execLF_ok {S : AStat} {HT : FuncId → Option HookT} (hH : HookSim S HT) {N lo : Nat} : ∀ {l : List Code} {r : Rg} {h : Hp} {x : AExit} {r' : Rg} {h' : Hp}, r.Ok → h.Ok → execLF S HT N lo l r h = some (x, r', h') →
    r'.Ok ∧ h'.Ok ∧ execL S N lo l r.toL h.toL = some (x, r'.toL, h'.toL)
  | [], r, h, x, r', h', hr, ho, e => by
    simp only [execLF, Option.some.injEq, Prod.mk.injEq] at e
    obtain ⟨rfl, rfl, rfl⟩ := e
    exact ⟨hr, ho, rfl⟩
  | c :: l, r, h, x, r', h', hr, ho, e => by
    simp only [execLF] at e
    simp only [execL]
    split at e
    · rename_i r1 h1 e1
      obtain ⟨k1, k2, k3⟩ := execF_ok hH N _ _ _ _ _ _ _ hr ho e1
      simp only [k3]
      exact execLF_ok hH k1 k2 e
    · rename_i hne
      obtain ⟨k1, k2, k3⟩ := execF_ok hH N _ _ _ _ _ _ _ hr ho e
      refine ⟨k1, k2, ?_⟩
      simp only [k3]
      cases x with
      | normal => exact (hne _ _ e).elim
      | _ => rfl

noncomputable def tailF (S : AStat) (HT : FuncId → Option HookT) (N : Nat) (fn : Func) (s : St3) : Option AVal :=
  match execLF S HT N 0 s.l s.r s.h with
  | none => none
  | some (.exit _, _, _) => none
  | some (_, r', h') =>
    match resultsG S r'.get h'.get fn.results.toList with
    | none => none
    | some vs => some (tupled vs)

noncomputable def headF (S : AStat) (HT : FuncId → Option HookT) (N k : Nat) (fn : Func) (body : Code) (av : List AVal) : Option St3 :=
  bif Nat.ble av.length fn.ntmps && Nat.ble fn.ntmps 512 then headsF S HT 0 N k (flat body []) (Rg.frame av fn.ntmps) Hp.empty else none

/-- One and the same state. -/
def St3.Same (s t : St3) : Prop := t.Ok ∧ t.l = s.l ∧ t.r.toL = s.r.toL ∧ t.h.toL = s.h.toL

/-- A law's function (its own way of ending: keep), run in two parts. -/
theorem run_two {S : AStat} {HT : FuncId → Option HookT} (hH : HookSim S HT) {f : FuncId} {fn : Func} {body : Code} (hf : S.P.funcs[f]? = some fn) (hb : fn.body = some body) (hk : S.hook f = none) (hp : S.pol f = .keep) {av : List AVal}
    {N k M : Nat} {s : St3} (h : headF S HT N k fn body av = some s) {t : St3} (hst : s.Ok → s.Same t) {v : AVal} (ht : tailF S HT M fn t = some v) : ∃ n H', runA S n 0 f av [] = some (v, H') := by
  unfold headF at h
  cases hc : (Nat.ble av.length fn.ntmps && Nat.ble fn.ntmps 512) with
  | false => rw [hc] at h; cases h
  | true =>
    rw [hc] at h
    simp only [cond_true] at h
    simp only [Bool.and_eq_true, Nat.ble_eq] at hc
    obtain ⟨h1, h2⟩ := headsF_ok hH (frame_ok av fn.ntmps hc.2) Hp.empty_ok h
    rw [frame_toL av fn.ntmps hc.2 hc.1, Hp.empty_toL] at h2
    obtain ⟨hto, e1, e2, e3⟩ := hst h1
    unfold tailF at ht
    split at ht
    · cases ht
    · cases ht
    · rename_i x r' h' hne hex
      obtain ⟨k1, k2, k3⟩ := execLF_ok hH hto.1 hto.2 hex
      rw [e1, e2, e3] at k3
      split at ht
      · cases ht
      · rename_i vs hvs
        simp only [Option.some.injEq] at ht
        subst ht
        rw [resultsG_eq S k1 k2] at hvs
        obtain ⟨n, hn⟩ := CallRuns.of_tail (S := S) (lo := 0) hf hb hk (H := []) (N := N) (k := k) (M := M) (l' := s.l) (ρ' := s.r.toL) (H' := s.h.toL) (r := (tupled vs, h'.toL)) (by
          unfold headA
          rw [hp]
          exact h2) (by
          unfold tailA
          rw [hp]
          simp only [Pol.lo, k3]
          cases x with
          | exit i => exact (hne i rfl).elim
          | normal => simp only [hvs, finish]
          | ret => simp only [hvs, finish])
        exact ⟨n, _, hn⟩

theorem Same.refl {s : St3} (h : s.Ok) : s.Same s := ⟨h, rfl, rfl, rfl⟩
theorem Same.trans {a b c : St3} (h : a.Same b) (k : b.Same c) : a.Same c := ⟨k.1, k.2.1.trans h.2.1, k.2.2.1.trans h.2.2.1, k.2.2.2.trans h.2.2.2⟩

theorem list_set_self {α : Type} {l : List α} {i : Nat} {v : α} (h : l[i]? = some v) : l.set i v = l := by
  apply List.ext_getElem?
  intro j
  rw [List.getElem?_set]
  split
  · rename_i hij
    subst hij
    rw [h]
    split
    · rfl
    · rename_i hl
      rw [List.getElem?_eq_none (by omega)] at h
      cases h
  · rfl

/-- A block goes by another name. -/
theorem Same.blk {s : St3} (h : s.Ok) {b : Nat} {x : Option ABlk} (hb : s.h.get b = some x) : s.Same ⟨s.l, s.r, s.h.set b x⟩ := by
  refine ⟨⟨h.1, Hp.set_ok h.2 b x⟩, rfl, rfl, ?_⟩
  rw [Hp.set_toL h.2]
  exact list_set_self (by rw [Hp.get_toL h.2]; exact hb)

/-- A cell goes by another name. -/
theorem Same.cell {s : St3} (h : s.Ok) {i : Nat} {v : AVal} (hi : s.r.get? i = some v) : s.Same ⟨s.l, s.r.set i v, s.h⟩ := by
  refine ⟨⟨Rg.set_ok h.1 i v, h.2⟩, rfl, ?_, rfl⟩
  rw [Rg.set_toL h.1]
  exact list_set_self (by rw [Rg.get?_toL h.1]; exact hi)

/-- Several cells and blocks go by other names. -/
noncomputable def St3.put (s : St3) (rs : List (Nat × AVal)) (bs : List (Nat × Option ABlk)) : St3 :=
  ⟨s.l, rs.foldl (fun r x => r.set x.1 x.2) s.r, bs.foldl (fun h x => h.set x.1 x.2) s.h⟩
noncomputable def St3.holds (s : St3) (rs : List (Nat × AVal)) (bs : List (Nat × Option ABlk)) : Prop :=
  (∀ x ∈ rs, s.r.get? x.1 = some x.2) ∧ ∀ x ∈ bs, s.h.get x.1 = some x.2

theorem Same.put {s : St3} (h : s.Ok) {rs : List (Nat × AVal)} {bs : List (Nat × Option ABlk)} (hh : s.holds rs bs) : s.Same (s.put rs bs) := by
  have h1 : ∀ (rs : List (Nat × AVal)) (r : Rg), r.Ok → r.toL = s.r.toL → (∀ x ∈ rs, s.r.get? x.1 = some x.2) → (rs.foldl (fun r x => r.set x.1 x.2) r).Ok ∧ (rs.foldl (fun r x => r.set x.1 x.2) r).toL = s.r.toL := by
    intro rs
    induction rs with
    | nil => exact fun r h1 h2 _ => ⟨h1, h2⟩
    | cons x rs ih =>
      intro r h1 h2 h3
      refine ih _ (Rg.set_ok h1 _ _) ?_ (fun y hy => h3 y (by simp [hy]))
      rw [Rg.set_toL h1, h2]
      exact list_set_self (by rw [Rg.get?_toL h.1]; exact h3 x (by simp))
  have h2 : ∀ (bs : List (Nat × Option ABlk)) (r : Hp), r.Ok → r.toL = s.h.toL → (∀ x ∈ bs, s.h.get x.1 = some x.2) → (bs.foldl (fun h x => h.set x.1 x.2) r).Ok ∧ (bs.foldl (fun h x => h.set x.1 x.2) r).toL = s.h.toL := by
    intro bs
    induction bs with
    | nil => exact fun r h1 h2 _ => ⟨h1, h2⟩
    | cons x bs ih =>
      intro r h1 h2 h3
      refine ih _ (Hp.set_ok h1 _ _) ?_ (fun y hy => h3 y (by simp [hy]))
      rw [Hp.set_toL h1, h2]
      exact list_set_self (by rw [Hp.get_toL h.2]; exact h3 x (by simp))
  obtain ⟨a1, a2⟩ := h1 rs s.r h.1 rfl hh.1
  obtain ⟨b1, b2⟩ := h2 bs s.h h.2 rfl hh.2
  exact ⟨⟨a1, b1⟩, rfl, a2, b2⟩

noncomputable def St3.reads (s : St3) (rs bs : List Nat) : List (Option AVal) × List (Option (Option ABlk)) := (rs.map s.r.get?, bs.map s.h.get)

theorem holds_of_reads {s : St3} {rs : List (Nat × AVal)} {bs : List (Nat × Option ABlk)} (h : s.reads (rs.map (·.1)) (bs.map (·.1)) = (rs.map (some ·.2), bs.map (some ·.2))) : s.holds rs bs := by
  simp only [St3.reads, Prod.mk.injEq, List.map_map, List.map_inj_left] at h
  exact ⟨fun x hx => h.1 x hx, fun x hx => h.2 x hx⟩

/-- THE RULE: run the head; what it holds at these places (rs, bs) is known by other names (rs', bs'); run the tail at those. -/
theorem run_cut {S : AStat} {HT : FuncId → Option HookT} (hH : HookSim S HT) {f : FuncId} {fn : Func} {body : Code} (hf : S.P.funcs[f]? = some fn) (hb : fn.body = some body) (hk : S.hook f = none) (hp : S.pol f = .keep) {av : List AVal}
    (N k M : Nat) (rs rs' : List (Nat × AVal)) (bs bs' : List (Nat × Option ABlk)) (e1 : rs = rs') (e2 : bs = bs')
    (h : (headF S HT N k fn body av).map (fun s => s.reads (rs.map (·.1)) (bs.map (·.1))) = some (rs.map (some ·.2), bs.map (some ·.2))) {v : AVal}
    (ht : ((headF S HT N k fn body av).bind fun s => tailF S HT M fn (s.put rs' bs')) = some v) : ∃ n H', runA S n 0 f av [] = some (v, H') := by
  subst e1 e2
  cases hh : headF S HT N k fn body av with
  | none => rw [hh] at h; cases h
  | some s =>
    rw [hh] at h ht
    simp only [Option.map_some, Option.some.injEq] at h
    simp only [Option.bind_some] at ht
    exact run_two hH hf hb hk hp hh (fun hs => Same.put hs (holds_of_reads h)) ht

end Go.Am

/- A call that was run where nothing is one's own serves wherever its arguments lead to nothing of one's own: what was there stays. Generic: over any program. -/
namespace Go.Am
open Go.RowKit

mutual
/-- Does a value lead to nothing that may turn? -/
def AVal.bare : AVal → Bool
  | .agg cs => baresA cs
  | .tup cs => baresA cs
  | .iface _ v => v.bare
  | .fn _ x y => baresA x && baresA y
  | .ptr _ _ => false
  | .sl _ _ _ _ _ _ => false
  | .mapr _ => false
  | _ => true
def baresA : List AVal → Bool
  | [] => true
  | a :: as => a.bare && baresA as
end

mutual
theorem bare_V {c c' : Cx} (h : Ext c.pure c'.pure) : ∀ (a : AVal) (v : Value), a.bare = true → V c a v → V c' a v
  | .bool b, v, _, hv => by simpa [V] using hv
  | .int k n, v, _, hv => by simpa [V] using hv
  | .str s, v, _, hv => by simpa [V] using hv
  | .agg cs, v, hb, hv => by
    simp only [V] at hv ⊢
    obtain ⟨vs, e, h1⟩ := hv
    exact ⟨vs, e, bares_V h cs vs hb h1⟩
  | .nilp, v, _, hv => by simpa [V] using hv
  | .ptr _ _, _, hb, _ => by simp [AVal.bare] at hb
  | .ipt cs, v, _, hv => by
    simp only [V] at hv ⊢
    obtain ⟨B, off, vs, e, hI, ha, hvs⟩ := hv
    exact ⟨B, off, vs, e, h.I _ hI, At.ext h hI ha, Vs_ext h cs vs hvs⟩
  | .eptr id cs, v, _, hv => by
    simp only [V] at hv ⊢
    obtain ⟨B, o, vs, hn, e1, e, hI, ha, hvs, ca, ta, hc⟩ := hv
    have ht : c'.θ = c.θ := h.θ
    rw [ht]
    exact ⟨B, o, vs, hn, e1, e, h.I _ hI, At.ext h hI ha, Vs_ext h cs vs hvs, ca, ta, by rw [show c'.w.heap[B]? = c.w.heap[B]? from h.kept _ hI]; exact hc⟩
  | .hnd b off, v, _, hv => by simpa [V] using hv
  | .nils, v, _, hv => by simpa [V] using hv
  | .list sz rows ex, v, _, hv => by
    simp only [V] at hv ⊢
    obtain ⟨a, cap, vs, e, hc, hx, hm, hvs⟩ := hv
    exact ⟨a, cap, vs, e, hc, hx, hm.imp_right fun k => ⟨k.1, h.I _ k.2.1, At.ext h k.2.1 k.2.2⟩, Vss_ext h sz rows vs hvs⟩
  | .sl _ _ _ _ _ _, _, hb, _ => by simp [AVal.bare] at hb
  | .nilm, v, _, hv => by simpa [V] using hv
  | .mapr _, _, hb, _ => by simp [AVal.bare] at hb
  | .fn f x y, v, hb, hv => by
    simp only [AVal.bare, Bool.and_eq_true] at hb
    simp only [V] at hv ⊢
    obtain ⟨vs, us, e, h1, h2⟩ := hv
    exact ⟨vs, us, e, bares_V h x vs hb.1 h1, bares_V h y us hb.2 h2⟩
  | .nilf, v, _, hv => by simpa [V] using hv
  | .iface t a, v, hb, hv => by
    simp only [V] at hv ⊢
    obtain ⟨u, e, hu⟩ := hv
    exact ⟨u, e, bare_V h a u hb hu⟩
  | .nili, v, _, hv => by simpa [V] using hv
  | .tup cs, v, hb, hv => by
    simp only [V] at hv ⊢
    obtain ⟨vs, e, h1⟩ := hv
    exact ⟨vs, e, bares_V h cs vs hb h1⟩
  | .junk, v, _, _ => by simp [V]
theorem bares_V {c c' : Cx} (h : Ext c.pure c'.pure) : ∀ (as : List AVal) (vs : List Value), baresA as = true → Vs c as vs → Vs c' as vs
  | [], vs, _, hv => by simpa [Vs] using hv
  | a :: as, vs, hb, hv => by
    simp only [baresA, Bool.and_eq_true] at hb
    simp only [Vs] at hv ⊢
    obtain ⟨v, us, e, h1, h2⟩ := hv
    exact ⟨v, us, e, bare_V h a v hb.1 h1, bares_V h as us hb.2 h2⟩
end

theorem pure_rel {c : Cx} {H : Heap} (hR : Rel c H) : Rel c.pure [] where
  blk := fun b blk h => by simp at h
  inj := fun b b' blk blk' B base base' h => by simp at h
  fresh := fun _ _ => rfl
  lt := hR.lt

theorem pure_pure (c : Cx) : Ext c.pure c.pure.pure := ⟨(fun _ _ h => by cases h), rfl, fun _ h => h, fun _ _ => rfl, fun _ _ _ h => h⟩

theorem glob_pure {S : AStat} {c : Cx} (hG : GlobOk S c) : GlobOk S c.pure := fun g cs hg => bare_V (pure_pure c) _ _ rfl (hG g cs hg)

/-- Back from a call at which nothing was one's own. -/
theorem pure_back {c : Cx} {H : Heap} (hR : Rel c H) {c1 : Cx} {H1 : Heap} (hT : Tr c.pure [] c1 H1) (hR1 : Rel c1 H1) (lo : Nat) {r : AVal} {v : Value} (hb : r.bare = true) (hv : V c1 r v) :
    ∃ c', c'.w = c1.w ∧ Rel c' H ∧ Tr c H c' H ∧ Low lo c H c' H ∧ V c' r v := by
  have hframe : ∀ B, B < c.w.heap.size → c1.w.heap[B]? = c.w.heap[B]? := fun B hB => hT.frame B hB (fun ⟨b, blk, base, h, _⟩ => by simp at h)
  let c' : Cx := { c with w := c1.w, I := fun B => c.I B ∨ (c.w.heap.size ≤ B ∧ c1.I B) }
  have hext : Ext c c' := ⟨fun _ _ h => h, rfl, fun _ h => .inl h, fun B hB => hframe B (hR.lt B hB), fun B t n h => by
    have hlt : B < c.w.heap.size := by
      rcases Nat.lt_or_ge B c.w.heap.size with h1 | h1
      · exact h1
      · simp [World.shape?, Array.getElem?_eq_none h1] at h
    show c1.w.shape? B = _
    rw [shape_of_block (w := c.w) (hframe B hlt)]
    exact h⟩
  refine ⟨c', rfl, ⟨?_, hR.inj, hR.fresh, ?_⟩, ⟨hext, hT.size, fun B hB _ => hframe B hB, fun B _ h => h, ?_, hT.os, hT.tape, hT.output⟩, ⟨?_, fun _ _ h => h, Nat.le_refl _⟩, ?_⟩
  · intro b blk hb
    obtain ⟨B, base, h1, h2, h3, h4⟩ := hR.blk b blk hb
    refine ⟨B, base, h1, ?_, Nat.lt_of_lt_of_le h3 hT.size, h4.ext hext (hframe B h3)⟩
    rintro (h | ⟨h, _⟩)
    · exact h2 h
    · omega
  · rintro B (h | ⟨_, h⟩)
    · exact Nat.lt_of_lt_of_le (hR.lt B h) hT.size
    · exact hR1.lt B h
  · rintro B hB (h | ⟨h, _⟩)
    · exact .inl h
    · omega
  · intro b blk _ hH
    refine ⟨hH, fun B base hi => ?_⟩
    obtain ⟨B', base', h1, _, h2, _⟩ := hR.blk b blk hH
    rw [hi] at h1
    simp only [Option.some.injEq, Prod.mk.injEq] at h1
    obtain ⟨rfl, rfl⟩ := h1
    exact hframe _ h2
  · refine bare_V (c := c1) (c' := c') ⟨(fun _ _ h => by cases h), hT.ext.θ.symm, ?_, fun _ _ => rfl, fun _ _ _ h => h⟩ r v hb hv
    intro B hB
    rcases Nat.lt_or_ge B c.w.heap.size with h | h
    · rcases hT.imm B h hB with h1 | ⟨b, blk, base, h1, _⟩
      · exact .inl h1
      · simp at h1
    · exact .inr ⟨h, hB⟩

/-- A contract that was shown where nothing is one's own serves anywhere. -/
theorem lift_bare {S : AStat} {f : FuncId} {av : List AVal} {r : AVal} (ha : baresA av = true) (hr : r.bare = true)
    (h : ∀ c vs, Rel c [] → GlobOk S c → Vs c av vs → ∃ H1, Calls S.P f vs.toArray c.w (CallPost 0 c [] r H1)) :
    ∀ lo c H vs, Rel c H → GlobOk S c → Vs c av vs → Calls S.P f vs.toArray c.w (CallPost lo c H r H) := by
  intro lo c H vs hR hG hv
  obtain ⟨H1, h1⟩ := h c.pure vs (pure_rel hR) (glob_pure hG) (bares_V (pure_pure c) _ _ ha hv)
  refine h1.mono fun e w' hp => ?_
  obtain ⟨v, c1, rfl, rfl, g1, g2, _, g3⟩ := hp
  obtain ⟨c', e1, k1, k2, k3, k4⟩ := pure_back hR g2 g1 lo hr g3
  exact ⟨v, c', rfl, e1, k1, k2, k3, k4⟩

/-- A closed run, as a contract. -/
theorem lift_run {S : AStat} (hS : StatOk S) {f : FuncId} {av : List AVal} {r : AVal} (ha : baresA av = true) (hr : r.bare = true) {n : Nat} {H1 : Heap} (h : runA S n 0 f av [] = some (r, H1)) :
    ∀ lo c H vs, Rel c H → GlobOk S c → Vs c av vs → (∃ fn, S.P.funcs[f]? = some fn ∧ fn.body.isSome = true) ∧ Calls S.P f vs.toArray c.w (CallPost lo c H r H) := by
  intro lo c H vs hR hG hv
  refine ⟨(runA_ok hS n 0 f av [] _ _ h c.pure vs (pure_rel hR) (glob_pure hG) (bares_V (pure_pure c) _ _ ha hv)).1, ?_⟩
  exact lift_bare ha hr (fun c vs h1 h2 h3 => ⟨H1, (runA_ok hS n 0 f av [] _ _ h c vs h1 h2 h3).2⟩) lo c H vs hR hG hv

end Go.Am

/- What a law's arguments are, read by their types: as idealised values. Generic: over any program. -/
namespace Go.Am
open Go.RowKit

inductive Ty where
  | bool
  | int (k : IntKind)
  | str
  | slice (e : Ty)
  | row (fs : List Ty)

mutual
def Ty.size : Ty → Nat
  | .row fs => sizes fs
  | .bool => 1
  | .int _ => 1
  | .str => 1
  | .slice _ => 1
def sizes : List Ty → Nat
  | [] => 0
  | t :: ts => t.size + sizes ts
end

mutual
/-- These cells are of this type. -/
def Ty.Is : Ty → List AVal → Prop
  | .bool, cs => ∃ b, cs = [.bool b]
  | .int k, cs => ∃ n, cs = [.int k n] ∧ k.min ≤ n ∧ n ≤ k.max
  | .str, cs => ∃ s : List UInt8, cs = [.str s] ∧ s.length ≤ maxLen
  | .slice e, cs => cs = [.nils] ∨ ∃ rows ex, cs = [.list e.size rows ex] ∧ rows.length ≤ maxLen ∧ ∀ r ∈ rows, e.Is r
  | .row fs, cs => IsL fs cs
def IsL : List Ty → List AVal → Prop
  | [], cs => cs = []
  | t :: ts, cs => ∃ a b, cs = a ++ b ∧ t.Is a ∧ IsL ts b
end

mutual
def Ty.ok (P : Program) : Ty → TypeId → Bool
  | .bool, t => match P.underlying t with | some .bool => true | _ => false
  | .int k, t => match P.underlying t with | some (.int k') => decide (k' = k) | _ => false
  | .str, t => match P.underlying t with | some .string => true | _ => false
  | .slice e, t => match P.underlying t with | some (.slice u) => e.ok P u && P.cellsOf u == e.size && Nat.blt 0 e.size | _ => false
  | .row fs, t =>
    match P.underlying t with
    | some (.struct gs) => P.cellsOf t == sizes fs && okL P fs (gs.toList.map fun g => (g.type, g.offset)) 0
    | some (.array n e) => P.cellsOf t == sizes fs && okL P fs ((List.range n).map fun i => (e, i * P.cellsOf e)) 0
    | _ => false
def okL (P : Program) : List Ty → List (TypeId × Nat) → Nat → Bool
  | [], [], _ => true
  | t :: ts, u :: us, o => t.ok P u.1 && u.2 == o && P.cellsOf u.1 == t.size && okL P ts us (o + t.size)
  | [], _ :: _, _ => false
  | _ :: _, [], _ => false
end

theorem addr_add_add (a : Addr) (m n : Nat) : (a.add m).add n = a.add (m + n) := by
  unfold Addr.add
  by_cases hm : m = 0
  · subst hm; simp
  · by_cases hn : n = 0
    · subst hn; simp
    · have : m + n ≠ 0 := by omega
      simp [hm, hn, Nat.add_assoc]

section
variable {P : Program} {H : Type} {enc : TypeId × Value → H} {W : World} {θ : List (Nat × Nat)} {sp : Nat → Bool} {held : Bool}

theorem cell_lt {a : Addr} {v : Value} (h : W.cell? a = some v) : a.spot = none ∧ a.block < W.heap.size := by
  unfold World.cell? at h
  split at h
  · rename_i hb
    split at h
    · cases h
    · rename_i hs
      refine ⟨by simpa using hs, ?_⟩
      rcases Nat.lt_or_ge a.block W.heap.size with h1 | h1
      · exact h1
      · rw [Array.getElem?_eq_none h1] at hb; cases hb
  · cases h

/-- The rows of a slice. -/
theorem rows_reads {e : TypeId} {sz : Nat} {Q : List AVal → Prop} {a : Addr} {len m : Nat}
    (ih : ∀ cs x, DataW.trod enc P W 0 sp held m e cs = some x → ∃ as, Vs (cx0 W θ) as cs ∧ Q as)
    (h : ∀ i, i < len → ∃ y, (W.cells? 0 (a.add (i * sz)) sz).bind (DataW.trod enc P W 0 sp held m e) = some y) :
    ∀ n i, i + n = len → ∃ rows vs, rows.length = n ∧ Vss (cx0 W θ) sz rows vs ∧ (∀ r ∈ rows, Q r) ∧ ∀ j v, vs[j]? = some v → W.cell? (a.add (i * sz + j)) = some v := by
  intro n
  induction n with
  | zero => intro i _; exact ⟨[], [], rfl, by simp [Vss], by simp, by simp⟩
  | succ n ihn =>
    intro i hi
    obtain ⟨rows, vs, h1, h2, h3, h4⟩ := ihn (i + 1) (by omega)
    obtain ⟨y, hy⟩ := h i (by omega)
    rw [Option.bind_eq_some_iff] at hy
    obtain ⟨cs, hc, ht⟩ := hy
    obtain ⟨_, hl, hcell⟩ := World.cells?_some hc
    obtain ⟨as, h5, h6⟩ := ih cs y ht
    refine ⟨as :: rows, cs ++ vs, by simp [h1], ?_, ?_, ?_⟩
    · simp only [Vss]
      exact ⟨cs, vs, rfl, hl, h5, h2⟩
    · intro r hr
      rcases List.mem_cons.1 hr with rfl | hr
      · exact h6
      · exact h3 r hr
    · intro j v hj
      rcases Nat.lt_or_ge j sz with hlt | hge
      · rw [List.getElem?_append_left (by omega)] at hj
        rw [← addr_add_add, hcell j hlt, hj]
      · rw [List.getElem?_append_right (by omega), hl] at hj
        have := h4 (j - sz) v hj
        rw [show i * sz + j = (i + 1) * sz + (j - sz) by rw [Nat.add_mul]; omega]
        exact this

mutual
theorem ty_reads : ∀ (ty : Ty) {fuel : Nat} {t : TypeId} {cs : List Value} {x : DataW H × List MemPlace}, ty.ok P t = true → DataW.trod enc P W 0 sp held fuel t cs = some x →
    ∃ as, Vs (cx0 W θ) as cs ∧ ty.Is as ∧ as.length = ty.size
  | .bool, fuel, t, cs, x, ho, h => by
    simp only [Ty.ok] at ho
    split at ho
    · rename_i ht
      obtain ⟨b, rfl, _⟩ := DataW.trod_bool ht h
      exact ⟨[.bool b], by simp [Vs, V], ⟨b, rfl⟩, rfl⟩
    · cases ho
  | .int k, fuel, t, cs, x, ho, h => by
    simp only [Ty.ok] at ho
    split at ho
    · rename_i k' ht
      simp only [decide_eq_true_eq] at ho
      subst ho
      obtain ⟨n, rfl, _, hw⟩ := DataW.trod_int ht h
      simp only [Lit.wf, Bool.and_eq_true, decide_eq_true_eq] at hw
      exact ⟨[.int k' n], by simp [Vs, V], ⟨n, rfl, hw⟩, rfl⟩
    · cases ho
  | .str, fuel, t, cs, x, ho, h => by
    simp only [Ty.ok] at ho
    split at ho
    · rename_i ht
      obtain ⟨s, rfl, _, hs⟩ := DataW.trod_string ht h
      refine ⟨[.str s.data.toList], by simp [Vs, V], ⟨_, rfl, ?_⟩, rfl⟩
      have : s.data.toList.length = s.size := Array.length_toList
      omega
    · cases ho
  | .slice e, fuel, t, cs, x, ho, h => by
    simp only [Ty.ok] at ho
    split at ho
    · rename_i u ht
      simp only [Bool.and_eq_true, beq_iff_eq] at ho
      obtain ⟨⟨ho, hsz⟩, hpos⟩ := ho
      rcases DataW.trod_slice ht h with ⟨rfl, _⟩ | ⟨a, len, cap, elems, rest, m, rfl, rfl, _, _, hlc, hcm, hel, hall, _⟩
      · exact ⟨[.nils], by simp [Vs, V], .inl rfl, rfl⟩
      · obtain ⟨rows, vs, h1, h2, h3, h4⟩ := rows_reads (θ := θ) (Q := e.Is) (a := a) (len := len) (sz := P.cellsOf u) (fun cs x hx => by
          obtain ⟨as, g1, g2, _⟩ := ty_reads e ho hx
          exact ⟨as, g1, g2⟩) (fun i hi => ⟨elems[i], by rw [hall i hi]; exact List.getElem?_eq_getElem (by omega)⟩) len 0 (by omega)
        subst h1
        refine ⟨[.list e.size rows (decide (cap = rows.length))], ?_, .inr ⟨rows, _, rfl, by omega, h3⟩, rfl⟩
        simp only [Vs]
        refine ⟨_, [], rfl, ?_, rfl⟩
        simp only [V]
        rw [← hsz]
        refine ⟨a, cap, vs, rfl, hlc, by simp, ?_, h2⟩
        cases rows with
        | nil => exact .inl rfl
        | cons r rows =>
          right
          have hne : ∃ v, vs[0]? = some v := by
            have := Vss_length h2
            have hp : 0 < e.size := by simpa [Nat.blt_eq] using hpos
            simp only [List.length_cons, Nat.add_mul, hsz] at this
            exact ⟨vs[0], List.getElem?_eq_getElem (by omega)⟩
          obtain ⟨v, hv⟩ := hne
          have h0 := h4 0 v hv
          simp only [Nat.zero_mul, Nat.zero_add] at h0
          have hs := cell_lt h0
          have ha0 : a.add 0 = a := by simp [Addr.add]
          rw [ha0] at hs
          refine ⟨hs.1, hs.2, fun j v hj => ?_⟩
          have := h4 j v hj
          simp only [Nat.zero_mul, Nat.zero_add] at this
          obtain ⟨B, o, s⟩ := a
          obtain rfl : s = none := hs.1
          rw [add_plain] at this
          exact this
    · cases ho
  | .row fs, fuel, t, cs, x, ho, h => by
    simp only [Ty.ok] at ho
    split at ho
    · rename_i gs ht
      simp only [Bool.and_eq_true, beq_iff_eq] at ho
      obtain ⟨xs, n, rfl, _, hl, hx, hall⟩ := DataW.trod_struct ht h
      have := tys_reads fs (cs := cs) (fuel := n) ho.2 (fun i u hu => by
        rw [List.getElem?_map, Option.map_eq_some_iff] at hu
        obtain ⟨f, hf, rfl⟩ := hu
        rw [Array.getElem?_toList] at hf
        have hi : i < xs.length := by
          rw [hx]
          rcases Nat.lt_or_ge i gs.size with h1 | h1
          · exact h1
          · rw [Array.getElem?_eq_none h1] at hf; cases hf
        exact ⟨xs[i], by rw [hall i f hf]; exact List.getElem?_eq_getElem hi⟩) (by omega)
      simp only [List.drop_zero] at this
      obtain ⟨as, h1, h2, h3⟩ := this
      exact ⟨as, h1, h2, h3⟩
    · rename_i n e ht
      simp only [Bool.and_eq_true, beq_iff_eq] at ho
      obtain ⟨xs, m, rfl, _, hl, hx, hall⟩ := DataW.trod_array ht h
      have := tys_reads fs (cs := cs) (fuel := m) ho.2 (fun i u hu => by
        rw [List.getElem?_map, Option.map_eq_some_iff] at hu
        obtain ⟨j, hj, rfl⟩ := hu
        have hj' : j < n := List.mem_range.1 (List.mem_of_getElem? hj)
        replace hj := hj'
        exact ⟨xs[j], by rw [hall j hj]; exact List.getElem?_eq_getElem (by omega)⟩) (by omega)
      simp only [List.drop_zero] at this
      obtain ⟨as, h1, h2, h3⟩ := this
      exact ⟨as, h1, h2, h3⟩
    · cases ho
theorem tys_reads : ∀ (ts : List Ty) {fuel : Nat} {us : List (TypeId × Nat)} {o : Nat} {cs : List Value}, okL P ts us o = true →
    (∀ (i : Nat) (u : TypeId × Nat), us[i]? = some u → ∃ y, DataW.trod enc P W 0 sp held fuel u.1 ((cs.drop u.2).take (P.cellsOf u.1)) = some y) → cs.length = o + sizes ts →
    ∃ as, Vs (cx0 W θ) as (cs.drop o) ∧ IsL ts as ∧ as.length = sizes ts
  | [], fuel, us, o, cs, _, _, hl => by
    refine ⟨[], ?_, rfl, rfl⟩
    simp only [Vs]
    simp only [sizes] at hl
    exact List.drop_eq_nil_of_le (by omega)
  | t :: ts, fuel, [], o, cs, ho, _, _ => by simp [okL] at ho
  | t :: ts, fuel, u :: us, o, cs, ho, h, hl => by
    simp only [okL, Bool.and_eq_true, beq_iff_eq] at ho
    obtain ⟨⟨⟨h1, h2⟩, h3⟩, h4⟩ := ho
    obtain ⟨y, hy⟩ := h 0 u rfl
    obtain ⟨as, g1, g2, g3⟩ := ty_reads t h1 hy
    simp only [sizes] at hl
    obtain ⟨bs, k1, k2, k3⟩ := tys_reads ts (cs := cs) h4 (fun i u hu => h (i + 1) u hu) (by omega)
    refine ⟨as ++ bs, ?_, ⟨as, bs, rfl, g2, k2⟩, by simp [g3, k3, sizes]⟩
    rw [h2, h3] at g1
    have e : cs.drop o = (cs.drop o).take t.size ++ cs.drop (o + t.size) := by rw [← List.drop_drop, List.take_append_drop]
    rw [e]
    exact Vs_append g1 k1
end

/-- An argument. -/
theorem arg_row {fs : List Ty} {t : TypeId} {v : Value} {d : DataW H} {ps : List MemPlace} {base : Nat} {r : Reach} (ho : (Ty.row fs).ok P t = true) (hv : Value.okWide P W r base t v)
    (h : DataW.Trod enc P W 0 sp held t v d ps) : ∃ as, V (cx0 W θ) (.agg as) v ∧ IsL fs as := by
  obtain ⟨fuel, h⟩ := h
  have hagg : ∃ cs, v = .agg cs := by
    simp only [Ty.ok] at ho
    unfold Value.okWide at hv
    split at ho
    · rename_i gs ht
      rw [ht] at hv
      obtain ⟨cs, rfl, _⟩ := hv
      exact ⟨cs, rfl⟩
    · rename_i n e ht
      rw [ht] at hv
      obtain ⟨cs, rfl, _⟩ := hv
      exact ⟨cs, rfl⟩
    · cases ho
  obtain ⟨cs, rfl⟩ := hagg
  obtain ⟨as, h1, h2, _⟩ := ty_reads (θ := θ) (.row fs) ho h
  refine ⟨as, ?_, h2⟩
  simp only [V]
  exact ⟨cs.toList, by simp, h1⟩

theorem arg_one {ty : Ty} {t : TypeId} {v : Value} {d : DataW H} {ps : List MemPlace} {base : Nat} {r : Reach} (hn : ∀ fs, ty ≠ .row fs) (ho : ty.ok P t = true) (hv : Value.okWide P W r base t v)
    (h : DataW.Trod enc P W 0 sp held t v d ps) : ∃ a, V (cx0 W θ) a v ∧ ty.Is [a] := by
  obtain ⟨fuel, h⟩ := h
  have hagg : ∀ cs, v ≠ .agg cs := by
    rintro cs rfl
    unfold Value.okWide at hv
    cases ty with
    | row fs => exact hn fs rfl
    | bool =>
      simp only [Ty.ok] at ho
      split at ho
      · rename_i ht; rw [ht] at hv; simp [Cell.okWide, Cell.ok, ht] at hv
      · cases ho
    | int k =>
      simp only [Ty.ok] at ho
      split at ho
      · rename_i ht; rw [ht] at hv; simp [Cell.okWide, Cell.ok, ht] at hv
      · cases ho
    | str =>
      simp only [Ty.ok] at ho
      split at ho
      · rename_i ht; rw [ht] at hv; simp [Cell.okWide, Cell.ok, ht] at hv
      · cases ho
    | slice e =>
      simp only [Ty.ok] at ho
      split at ho
      · rename_i ht; rw [ht] at hv; simp [Cell.okWide, Cell.ok, ht] at hv
      · cases ho
  have hc : v.cells.toList = [v] := by
    cases v <;> first | rfl | exact (hagg _ rfl).elim
  rw [hc] at h
  obtain ⟨as, h1, h2, h3⟩ := ty_reads (θ := θ) ty ho h
  have : ∃ a, as = [a] := by
    have hl := Vs_length h1
    match as, hl with
    | [a], _ => exact ⟨a, rfl⟩
  obtain ⟨a, rfl⟩ := this
  simp only [Vs] at h1
  obtain ⟨_, _, e, h1, rfl⟩ := h1
  simp only [List.cons.injEq, and_true] at e
  subst e
  exact ⟨a, h1, h2⟩
end
end Go.Am

/- Symbolic values and memory: what a run over lists of any length is seen as; what it means that an idealised state is of such a shape. Generic: over any program. -/
namespace Go.Sy
open Go.Am

inductive SV (T : Nat → Type) where
  | a (v : AVal)
  | i (k : IntKind) (n : Int)
  | b (x : Bool)
  | s (x : List UInt8)
  | agg (cs : List (SV T))
  | tup (cs : List (SV T))
  | iface (t : TypeId) (v : SV T)
  | fn (f : Fn) (first captured : List (SV T))
  | ptr (id off : Nat)
  | ep (id : Nat) (i : Int) (off : Nat)
  | sl (sz id off len cap : Nat) (ex : Bool)
  | R (id : Nat)
  | mapr (id : Nat)
  | fp (cs : List (SV T))
  | tl (n : Nat) (l : List (T n))
  | any

/-- How typed rows lie in cells. -/
structure Codec where
  T : Nat → Type
  sz : Nat → Nat
  enc : (n : Nat) → T n → List (SV T)
  dec : (n : Nat) → List (SV T) → Option (T n)
  dflt : (n : Nat) → T n
  /-- The rows of a type's elements. -/
  ofTy : TypeId → Option Nat
  /-- Which cells of a row are slices, and of what. -/
  shape : Nat → List (Option Nat)
  /-- Rows of numbers, truths, strings alone. -/
  flat : Nat → Bool
  /-- Rows of bytes, as bytes. -/
  bytes : (n : Nat) → Option (List (T n) → List UInt8)

def Codec.at (C : Codec) (n : Nat) (l : List (C.T n)) (i : Int) : C.T n := l.getD i.toNat (C.dflt n)

structure Env where
  β : Nat → Option Nat
  γ : Nat → Option AVal
  ω : Nat → Option Nat
  Fr : Nat → List AVal → Prop

def isSlB : AVal → Bool
  | .nils => true
  | .sl _ _ _ _ _ _ => true
  | .list _ _ _ => true
  | _ => false

variable {C : Codec}

inductive Er (E : Env) : SV C.T → AVal → Prop
  | a (v : AVal) : Er E (.a v) v
  | i (k : IntKind) (n : Int) : Er E (.i k n) (.int k n)
  | b (x : Bool) : Er E (.b x) (.bool x)
  | s (x : List UInt8) : Er E (.s x) (.str x)
  | agg {cs : List (SV C.T)} {as : List AVal} : cs.length = as.length → (∀ (i : Nat) (x : SV C.T) (a : AVal), cs[i]? = some x → as[i]? = some a → Er E x a) → Er E (.agg cs) (.agg as)
  | tup {cs : List (SV C.T)} {as : List AVal} : cs.length = as.length → (∀ (i : Nat) (x : SV C.T) (a : AVal), cs[i]? = some x → as[i]? = some a → Er E x a) → Er E (.tup cs) (.tup as)
  | iface {t : TypeId} {x : SV C.T} {a : AVal} : Er E x a → Er E (.iface t x) (.iface t a)
  | fn {f : Fn} {cs ds : List (SV C.T)} {as bs : List AVal} : cs.length = as.length → (∀ (i : Nat) (x : SV C.T) (a : AVal), cs[i]? = some x → as[i]? = some a → Er E x a) →
      ds.length = bs.length → (∀ (i : Nat) (x : SV C.T) (a : AVal), ds[i]? = some x → bs[i]? = some a → Er E x a) → Er E (.fn f cs ds) (.fn f as bs)
  | ptr {id b off : Nat} : E.β id = some b → Er E (.ptr id off) (.ptr b off)
  | ep {id : Nat} {i : Int} {off z b o len cap : Nat} {ex : Bool} : E.γ id = some (.sl z b o len cap ex) → Er E (.ep id i off) (.ptr b (o + i.toNat * z + off))
  | sl {sz id b off len cap : Nat} {ex : Bool} : E.β id = some b → Er E (.sl sz id off len cap ex) (.sl sz b off len cap ex)
  | R {id : Nat} {a : AVal} : E.γ id = some a → isSlB a = true → Er E (.R id) a
  | mapr {id b : Nat} : E.β id = some b → Er E (.mapr id) (.mapr b)
  | fpI {cs : List (SV C.T)} {as all rest : List AVal} : all = as ++ rest → cs.length = as.length → (∀ (i : Nat) (x : SV C.T) (a : AVal), cs[i]? = some x → as[i]? = some a → Er E x a) → Er E (.fp cs) (.ipt all)
  | fpP {cs : List (SV C.T)} {as all rest : List AVal} {b off : Nat} : E.Fr b all → all.drop off = as ++ rest → cs.length = as.length → (∀ (i : Nat) (x : SV C.T) (a : AVal), cs[i]? = some x → as[i]? = some a → Er E x a) → Er E (.fp cs) (.ptr b off)
  | tlN {n : Nat} : Er E (.tl n []) .nils
  | tlL {n z : Nat} {l : List (C.T n)} {rows : List (List AVal)} {ex : Bool} : z = C.sz n → rows.length = l.length → (∀ (i : Nat) (r : List AVal), rows[i]? = some r → r.length = C.sz n) →
      (∀ (i : Nat) (y : C.T n) (r : List AVal) (j : Nat) (x : SV C.T) (a : AVal), l[i]? = some y → rows[i]? = some r → (C.enc n y)[j]? = some x → r[j]? = some a → Er E x a) → Er E (.tl n l) (.list z rows ex)
  | tlS {n z b off len cap : Nat} {l : List (C.T n)} {as : List AVal} {ex : Bool} : z = C.sz n → len = l.length → E.Fr b as → off + l.length * C.sz n ≤ as.length → l.length ≤ cap →
      (∀ (i : Nat) (y : C.T n) (j : Nat) (x : SV C.T) (a : AVal), l[i]? = some y → (C.enc n y)[j]? = some x → as[off + i * C.sz n + j]? = some a → Er E x a) → Er E (.tl n l) (.sl z b off len cap ex)
  | any {a : AVal} : Er E .any a

def Ers (E : Env) (cs : List (SV C.T)) (as : List AVal) : Prop := cs.length = as.length ∧ ∀ (i : Nat) (x : SV C.T) (a : AVal), cs[i]? = some x → as[i]? = some a → Er E x a

structure Env.le (E E' : Env) : Prop where
  β : ∀ id b, E.β id = some b → E'.β id = some b
  γ : ∀ id a, E.γ id = some a → E'.γ id = some a
  ω : ∀ b r, E.ω b = some r → E'.ω b = some r
  Fr : ∀ b cs, E.Fr b cs → E'.Fr b cs

theorem Env.le.refl (E : Env) : E.le E := ⟨fun _ _ h => h, fun _ _ h => h, fun _ _ h => h, fun _ _ h => h⟩
theorem Env.le.trans {E E' E'' : Env} (h : E.le E') (k : E'.le E'') : E.le E'' :=
  ⟨fun _ _ x => k.β _ _ (h.β _ _ x), fun _ _ x => k.γ _ _ (h.γ _ _ x), fun _ _ x => k.ω _ _ (h.ω _ _ x), fun _ _ x => k.Fr _ _ (h.Fr _ _ x)⟩

/-- What a value of this shape is bears on nothing but these three. -/
theorem Er.mono' {E E' : Env} (hβ : ∀ id b, E.β id = some b → E'.β id = some b) (hγ : ∀ id a, E.γ id = some a → E'.γ id = some a) (hF : ∀ b cs, E.Fr b cs → E'.Fr b cs)
    {x : SV C.T} {a : AVal} (h : Er E x a) : Er E' x a := by
  induction h with
  | a v => exact .a v
  | i k n => exact .i k n
  | b x => exact .b x
  | s x => exact .s x
  | agg hl _ ih => exact .agg hl ih
  | tup hl _ ih => exact .tup hl ih
  | iface _ ih => exact .iface ih
  | fn h1 _ h2 _ ih1 ih2 => exact .fn h1 ih1 h2 ih2
  | ptr h => exact .ptr (hβ _ _ h)
  | ep h => exact .ep (hγ _ _ h)
  | sl h => exact .sl (hβ _ _ h)
  | R h hs => exact .R (hγ _ _ h) hs
  | mapr h => exact .mapr (hβ _ _ h)
  | fpI e hl _ ih => exact .fpI e hl ih
  | fpP hf e hl _ ih => exact .fpP (hF _ _ hf) e hl ih
  | tlN => exact .tlN
  | tlL hz hl hr _ ih => exact .tlL hz hl hr ih
  | tlS hz hl hf ho hc _ ih => exact .tlS hz hl (hF _ _ hf) ho hc ih
  | any => exact .any

theorem Er.mono {E E' : Env} (k : E.le E') {x : SV C.T} {a : AVal} (h : Er E x a) : Er E' x a := h.mono' k.β k.γ k.Fr
theorem Ers.mono {E E' : Env} (k : E.le E') {xs : List (SV C.T)} {as : List AVal} (h : Ers E xs as) : Ers E' xs as := ⟨h.1, fun i x a h1 h2 => (h.2 i x a h1 h2).mono k⟩

theorem Ers.nil {E : Env} : Ers E ([] : List (SV C.T)) [] := ⟨rfl, fun _ _ _ h => by simp at h⟩
theorem Ers.cons {E : Env} {x : SV C.T} {a : AVal} {xs : List (SV C.T)} {as : List AVal} (h : Er E x a) (hs : Ers E xs as) : Ers E (x :: xs) (a :: as) := by
  refine ⟨by simp [hs.1], fun i y b h1 h2 => ?_⟩
  cases i with
  | zero => simp at h1 h2; subst h1 h2; exact h
  | succ i => simp at h1 h2; exact hs.2 i y b h1 h2
theorem Ers.inv_cons {E : Env} {x : SV C.T} {xs : List (SV C.T)} {as : List AVal} (h : Ers E (x :: xs) as) : ∃ a as', as = a :: as' ∧ Er E x a ∧ Ers E xs as' := by
  cases as with
  | nil => simp [Ers] at h
  | cons a as' =>
    refine ⟨a, as', rfl, h.2 0 x a rfl rfl, by simpa using h.1, fun i y b h1 h2 => h.2 (i + 1) y b (by simpa using h1) (by simpa using h2)⟩
theorem Ers.inv_nil {E : Env} {as : List AVal} (h : Ers E ([] : List (SV C.T)) as) : as = [] := by
  cases as with
  | nil => rfl
  | cons a as => simp [Ers] at h
theorem Ers.append {E : Env} {xs ys : List (SV C.T)} {as bs : List AVal} (h : Ers E xs as) (k : Ers E ys bs) : Ers E (xs ++ ys) (as ++ bs) := by
  induction xs generalizing as with
  | nil => rw [h.inv_nil]; exact k
  | cons x xs ih =>
    obtain ⟨a, as', rfl, h1, h2⟩ := h.inv_cons
    exact (ih h2).cons h1
theorem Ers.drop {E : Env} {xs : List (SV C.T)} {as : List AVal} (h : Ers E xs as) (n : Nat) : Ers E (xs.drop n) (as.drop n) :=
  ⟨by simp [h.1], fun i x a h1 h2 => h.2 (n + i) x a (by simpa using h1) (by simpa using h2)⟩
theorem Ers.take {E : Env} {xs : List (SV C.T)} {as : List AVal} (h : Ers E xs as) (n : Nat) : Ers E (xs.take n) (as.take n) := by
  refine ⟨by simp [h.1], fun i x a h1 h2 => ?_⟩
  rw [List.getElem?_take] at h1 h2
  split at h1
  · rename_i hi
    rw [if_pos hi] at h2
    exact h.2 i x a h1 h2
  · cases h1
theorem Ers.get {E : Env} {xs : List (SV C.T)} {as : List AVal} (h : Ers E xs as) {i : Nat} {x : SV C.T} (hx : xs[i]? = some x) : ∃ a, as[i]? = some a ∧ Er E x a := by
  have hl : i < xs.length := by
    rcases Nat.lt_or_ge i xs.length with k | k
    · exact k
    · rw [List.getElem?_eq_none k] at hx; cases hx
  have hl' : i < as.length := by rw [← h.1]; exact hl
  exact ⟨as[i], List.getElem?_eq_getElem hl', h.2 i x _ hx (List.getElem?_eq_getElem hl')⟩
theorem Ers.mapA {E : Env} (as : List AVal) : Ers (C := C) E (as.map .a) as := by
  refine ⟨by simp, fun i x a h1 h2 => ?_⟩
  rw [List.getElem?_map, h2] at h1
  simp only [Option.map_some, Option.some.injEq] at h1
  subst h1
  exact .a a
theorem Ers.append_inv {E : Env} {xs ys : List (SV C.T)} {as : List AVal} (h : Ers E (xs ++ ys) as) : ∃ bs cs, as = bs ++ cs ∧ Ers E xs bs ∧ Ers E ys cs := by
  refine ⟨as.take xs.length, as.drop xs.length, (List.take_append_drop _ _).symm, ?_, ?_⟩
  · have := h.take xs.length
    simpa using this
  · have := h.drop xs.length
    simpa using this

inductive Obj (T : Nat → Type) where
  | cells (cs : List (SV T))
  | rows (n : Nat) (l : List (T n)) (full : Bool) (root : Nat)
  | mp (es : List (SV T × SV T))

abbrev SH (C : Codec) := List (Option (Obj C.T))

/-- Rows at a place in a block. -/
def RowsAt (E : Env) (n : Nat) (l : List (C.T n)) (as : List AVal) (off : Nat) : Prop :=
  ∀ (i : Nat) (y : C.T n) (j : Nat) (x : SV C.T) (a : AVal), l[i]? = some y → (C.enc n y)[j]? = some x → as[off + i * C.sz n + j]? = some a → Er E x a

inductive EsOk (E : Env) : List (SV C.T × SV C.T) → List (AVal × AVal) → Prop
  | nil : EsOk E [] []
  | cons {k v : SV C.T} {a b : AVal} {es : List (SV C.T × SV C.T)} {as : List (AVal × AVal)} : Er E k a → Er E v b → EsOk E es as → EsOk E ((k, v) :: es) ((a, b) :: as)

theorem EsOk.mono {E E' : Env} (k : E.le E') {es : List (SV C.T × SV C.T)} {as : List (AVal × AVal)} (h : EsOk E es as) : EsOk E' es as := by
  induction h with
  | nil => exact .nil
  | cons h1 h2 _ ih => exact .cons (h1.mono k) (h2.mono k) ih

/-- Slices without an element that an append copies. -/
def EmptyA (E : Env) (z : Nat) (a : AVal) : Prop := a = .nils ∨ a = .list z [] true

def ObjOk (E : Env) (H : Heap) (id : Nat) : Obj C.T → Prop
  | .cells cs => ∃ b as, E.β id = some b ∧ E.ω b = some id ∧ H[b]? = some (some (.cells as)) ∧ Ers E cs as
  | .mp es => ∃ b as, E.β id = some b ∧ E.ω b = some id ∧ H[b]? = some (some (.mp as)) ∧ EsOk E es as
  | .rows n l full root => (l = [] ∧ E.β id = none ∧ ∃ a, E.γ id = some a ∧ EmptyA E (C.sz n) a) ∨
      ∃ b off cap ex as, E.γ id = some (.sl (C.sz n) b off l.length cap ex) ∧ E.β id = some b ∧ E.ω b = some root ∧ H[b]? = some (some (.cells as)) ∧ l.length ≤ cap ∧ off + cap * C.sz n ≤ as.length ∧
        (ex = true ∨ off + cap * C.sz n = as.length) ∧ (full = true → ex = true ∨ cap = l.length) ∧ RowsAt E n l as off

theorem ObjOk.mono {E E' : Env} (k : E.le E') {H : Heap} {id : Nat} {o : Obj C.T} (hb : E.β id = none → E'.β id = none) (h : ObjOk E H id o) : ObjOk E' H id o := by
  cases o with
  | cells cs =>
    obtain ⟨b, as, h1, hw, h2, h3⟩ := h
    exact ⟨b, as, k.β _ _ h1, k.ω _ _ hw, h2, h3.mono k⟩
  | mp es =>
    obtain ⟨b, as, h1, hw, h2, h3⟩ := h
    exact ⟨b, as, k.β _ _ h1, k.ω _ _ hw, h2, h3.mono k⟩
  | rows n l full root =>
    rcases h with ⟨h1, h2, a, h3, h4⟩ | ⟨b, off, cap, ex, as, h1, h2, hw, h3, h4, h5, h6, h7, h8⟩
    · refine .inl ⟨h1, hb h2, a, k.γ _ _ h3, ?_⟩
      exact h4
    · exact .inr ⟨b, off, cap, ex, as, k.γ _ _ h1, k.β _ _ h2, k.ω _ _ hw, h3, h4, h5, h6, h7, fun i y j x a q1 q2 q3 => (h8 i y j x a q1 q2 q3).mono k⟩

/-- The idealised memory is of this shape. -/
structure SimH (E : Env) (lo wlo : Nat) (h : SH C) (H : Heap) : Prop where
  obj : ∀ (id : Nat) (o : Obj C.T), h[id]? = some (some o) → ObjOk E H id o
  inj : ∀ (id id' : Nat) (o o' : Obj C.T) (b : Nat), h[id]? = some (some o) → h[id']? = some (some o') → E.β id = some b → E.β id' = some b → id = id'
  fr : ∀ (b : Nat) (cs : List AVal), E.Fr b cs → H[b]? = some (some (.cells cs)) ∧ ∀ (id : Nat) (o : Obj C.T), h[id]? = some (some o) → E.β id ≠ some b
  fresh : ∀ (id : Nat), h.length ≤ id → E.β id = none ∧ E.γ id = none
  low : ∀ (id b : Nat), wlo ≤ id → E.β id = some b → lo ≤ b
  bnd : ∀ (id b : Nat), E.β id = some b → b < H.length
  own : ∀ (b r : Nat), E.ω b = some r → b < H.length ∧ ∀ cs, ¬ E.Fr b cs
  βω : ∀ (id b : Nat), E.β id = some b → ∃ r, E.ω b = some r
  wl : wlo ≤ h.length
  ll : lo ≤ H.length

/-! ### Trees of what is owed -/
inductive Tree : Type 1 where
  | ok
  | fork (b : Bool) (x y : Tree)
  | need (p : Prop) (x : Tree)
  | ex (α : Type) (f : α → Tree)
  | all (α : Type) (f : α → Tree)
  | stuck (why : String)

def Stuck (_ : String) : Prop := False

def Tree.holds : Tree → Prop
  | .ok => True
  | .fork b x y => (b = true → x.holds) ∧ (b = false → y.holds)
  | .need p x => p ∧ x.holds
  | .ex α f => ∃ a : α, (f a).holds
  | .all α f => ∀ a : α, (f a).holds
  | .stuck why => Stuck why

theorem stuck_no {s : String} (h : (Tree.stuck s).holds) : False := h
theorem fork_cases {b : Bool} {x y : Tree} (h : (Tree.fork b x y).holds) : (b = true ∧ x.holds) ∨ (b = false ∧ y.holds) := by
  cases b with
  | true => exact .inl ⟨rfl, h.1 rfl⟩
  | false => exact .inr ⟨rfl, h.2 rfl⟩

def opt {α : Type} (x : Option α) (why : String) (K : α → Tree) : Tree :=
  match x with
  | some v => K v
  | none => .stuck why
theorem opt_some {α : Type} {x : Option α} {why : String} {K : α → Tree} (h : (opt x why K).holds) : ∃ v, x = some v ∧ (K v).holds := by
  cases x with
  | some v => exact ⟨v, rfl, h⟩
  | none => exact (stuck_no h).elim

end Go.Sy

/- What each operation does to symbolic values. Generic: over any program. -/
namespace Go.Sy
set_option linter.unusedVariables false
open Go.Am
variable {C : Codec}

/-! ### Registers -/
structure SR (C : Codec) where
  t : Bt (SV C.T)
  n : Nat
noncomputable def SR.get (r : SR C) (i : Nat) : SV C.T := bif Nat.blt i r.n then (r.t.get i).getD .any else .a undefA
noncomputable def SR.set (r : SR C) (i : Nat) (v : SV C.T) : SR C := bif Nat.blt i r.n then ⟨r.t.set v i, r.n⟩ else r
noncomputable def SR.fill : List (SV C.T) → Nat → SR C → SR C
  | [], _, r => r
  | a :: as, i, r => SR.fill as (i + 1) (r.set i a)
noncomputable def SR.frame (args : List (SV C.T)) (n : Nat) : SR C := SR.fill args 0 ⟨Bt.full (.a undefA) 9, n⟩
/-- Registers that say nothing but what is listed. -/
noncomputable def SR.only (n : Nat) : List (Nat × SV C.T) → SR C
  | [] => ⟨Bt.full .any 9, n⟩
  | (i, v) :: l => (SR.only n l).set i v

/-! ### Memory -/
def hget (h : SH C) (id : Nat) : Option (Obj C.T) := match h[id]? with
  | some (some o) => some o
  | _ => none

/-! ### Values -/
def cellsS {T : Nat → Type} : SV T → Option (List (SV T))
  | .agg cs => some cs
  | .a (.agg as) => some (as.map .a)
  | .any => none
  | x => some [x]

def oneS {T : Nat → Type} : SV T → Bool
  | .agg _ => false
  | .tup _ => false
  | .any => false
  | .a v => v.one
  | _ => true

def scal {T : Nat → Type} : SV T → Bool
  | .a _ => true
  | .i _ _ => true
  | .b _ => true
  | .s _ => true
  | _ => false

/-- A cell of a row: a number, a truth, a string, what is known, or such rows. -/
def noId {T : Nat → Type} : SV T → Bool
  | .a _ => true
  | .i _ _ => true
  | .b _ => true
  | .s _ => true
  | .tl _ _ => true
  | _ => false

def liftV {T : Nat → Type} : AVal → SV T
  | .int k n => .i k n
  | .bool b => .b b
  | .str s => .s s
  | v => .a v

def intOf {T : Nat → Type} : SV T → Option (IntKind × Int)
  | .i k n => some (k, n)
  | .a (.int k n) => some (k, n)
  | _ => none
def strOf {T : Nat → Type} : SV T → Option (List UInt8)
  | .s x => some x
  | .a (.str x) => some x
  | _ => none
def boolOf {T : Nat → Type} : SV T → Option Bool
  | .b x => some x
  | .a (.bool x) => some x
  | _ => none
def nkS {T : Nat → Type} : SV T → Option (NK × Bool)
  | .a v => nk v
  | .iface _ _ => some (.i, false)
  | .ptr _ _ => some (.p, false)
  | .ep _ _ _ => some (.p, false)
  | .fp _ => some (.p, false)
  | .sl _ _ _ _ _ _ => some (.s, false)
  | .fn _ _ _ => some (.f, false)
  | .mapr _ => some (.m, false)
  | _ => none

section
variable (P : Program)

def partS {T : Nat → Type} (t : TypeId) (cs : List (SV T)) (off : Nat) : Option (SV T) :=
  match P.underlying t with
  | some (.struct _) | some (.array _ _) =>
    if off + szOf P t ≤ cs.length then some (.agg ((cs.drop off).take (szOf P t))) else none
  | some _ => cs[off]?
  | none => none

/-! ### Whole numbers that stand for a place -/
/-- Which of so many? -/
def chain (j : Int) (K : Nat → Tree) : Nat → Tree
  | 0 => .stuck "no such place"
  | 1 => K 0
  | m + 2 => .fork (j == ((m + 1 : Nat) : Int)) (K (m + 1)) (chain j K (m + 1))

def idxK {T : Nat → Type} (x : SV T) (len : Nat) (K : Nat → Tree) : Tree :=
  match x with
  | .a (.int _ n) => match n with
    | .ofNat m => bif Nat.blt m len then K m else .stuck "a place behind the end"
    | _ => .stuck "a place below nothing"
  | .i _ n => .need (0 ≤ n ∧ n < (len : Int)) (chain n K len)
  | _ => .stuck "a place that is no number"

/-! ### Operations upon two -/
def divS {T : Nat → Type} (op : BinOp) (k : IntKind) (m n : Int) (lit : Bool) (K : SV T → Tree) : Tree :=
  bif lit then
    match n with
    | .ofNat 0 => .stuck "division by nothing"
    | _ => match op with
      | .quo => K (.i k (k.wrap (m.tdiv n)))
      | _ => K (.i k (m.tmod n))
  else .need (n ≠ 0) (match op with
      | .quo => K (.i k (k.wrap (m.tdiv n)))
      | _ => K (.i k (m.tmod n)))
def shS {T : Nat → Type} (op : BinOp) (k : IntKind) (m n : Int) (K : SV T → Tree) : Tree :=
  .need (0 ≤ n) (match op with
    | .shl => K (.i k (k.wrap (m * 2 ^ (min n.toNat k.bits))))
    | _ => K (.i k (m.fdiv (2 ^ (min n.toNat k.bits)))))
def isLit {T : Nat → Type} : SV T → Bool
  | .a _ => true
  | _ => false
def intBinS {T : Nat → Type} (op : BinOp) (k k' : IntKind) (m n : Int) (lit : Bool) (K : SV T → Tree) : Tree :=
  match op with
  | .shl => shS .shl k m n K
  | .shr => shS .shr k m n K
  | .quo => if k = k' then divS .quo k m n lit K else .stuck "kinds"
  | .rem => if k = k' then divS .rem k m n lit K else .stuck "kinds"
  | op => if k = k' then opt (intBin op k m n) "no such operation" fun v => K (liftV v) else .stuck "kinds"
def strBinS {T : Nat → Type} (op : BinOp) (x y : List UInt8) (K : SV T → Tree) : Tree :=
  match op with
  | .add => .need (((x.length + y.length : Nat) : Int) ≤ IntKind.i64.max) (K (.s (x ++ y)))
  | op => opt (strBin op x y) "no such operation" fun v => K (liftV v)
def boolBinS {T : Nat → Type} (op : BinOp) (t : TypeId) (x y : Bool) (K : SV T → Tree) : Tree :=
  bif boolB P t then
    match op with
    | .eql => K (.b (x == y))
    | .neq => K (.b (!(x == y)))
    | _ => .stuck "no such operation"
  else .stuck "no truth"
def nilBinS {T : Nat → Type} (op : BinOp) (t : TypeId) (lit : Bool) (x y : NK × Bool) (K : SV T → Tree) : Tree :=
  if x.1 = y.1 ∧ (x.2 = true ∨ y.2 = true) ∧ nkOk P t x.1 = true ∧ (lit = true ∨ x.1 ≠ .i ∨ x.2 = false ∨ y.2 = false) then
    match op with
    | .eql => K (.a (.bool (x.2 && y.2)))
    | .neq => K (.a (.bool (!(x.2 && y.2))))
    | _ => .stuck "no such operation"
  else .stuck "nil"
def binS {T : Nat → Type} (op : BinOp) (t : TypeId) (lit : Bool) (x y : SV T) (K : SV T → Tree) : Tree :=
  bif isLit x && isLit y then
    match x, y with
    | .a (.iface t1 v), .a (.iface t2 w) => opt (binA P op t lit (.iface t1 v) (.iface t2 w)) "binop" fun r => K (liftV r)
    | .a v, .a w => opt (binA P op t lit v w) "binop" fun r => K (.a r)
    | _, _ => .stuck ""
  else
    match intOf x, intOf y with
    | some (k, m), some (k', n) => intBinS op k k' m n (isLit y) K
    | _, _ => match strOf x, strOf y with
      | some s, some s' => strBinS op s s' K
      | _, _ => match boolOf x, boolOf y with
        | some b, some b' => boolBinS P op t b b' K
        | _, _ => match nkS x, nkS y with
          | some p, some q => nilBinS P op t lit p q K
          | _, _ => .stuck "binop"

def unS {T : Nat → Type} (op : UnOp) (x : SV T) (K : SV T → Tree) : Tree :=
  match x with
  | .a v => opt (unA op v) "unop" fun r => K (.a r)
  | .i k n => opt (unA op (.int k n)) "unop" fun r => K (liftV r)
  | .b t => opt (unA op (.bool t)) "unop" fun r => K (liftV r)
  | _ => .stuck "unop"

def fieldAddrS {T : Nat → Type} (t : TypeId) (x : SV T) (f : Nat) (K : SV T → Tree) : Tree :=
  match P.underlying t with
  | some (.struct fs) =>
    match fs[f]? with
    | some fd =>
      if (P.info? fd.type).isSome ∧ szOf P fd.type ≠ 0 then
        match x with
        | .ptr id off => K (.ptr id (off + fd.offset))
        | .ep id i off => K (.ep id i (off + fd.offset))
        | .fp cs => if fd.offset ≤ cs.length then K (.fp (cs.drop fd.offset)) else .stuck "fieldAddr"
        | .a (.ipt cs) => K (.a (.ipt (cs.drop fd.offset)))
        | .a (.eptr _ cs) => K (.a (.ipt (cs.drop fd.offset)))
        | _ => .stuck "fieldAddr"
      else .stuck "fieldAddr"
    | none => .stuck "fieldAddr"
  | _ => .stuck "fieldAddr"

def fieldS {T : Nat → Type} (t : TypeId) (x : SV T) (f : Nat) (K : SV T → Tree) : Tree :=
  match P.underlying t with
  | some (.struct fs) =>
    match fs[f]? with
    | some fd => if (P.info? fd.type).isSome then
        match x with
        | .agg cs => opt (partS P fd.type cs fd.offset) "field" K
        | .a (.agg as) => opt (partA P fd.type as fd.offset) "field" fun v => K (.a v)
        | _ => .stuck "field"
      else .stuck "field"
    | none => .stuck "field"
  | _ => .stuck "field"

def indexAddrS (t : TypeId) (h : SH C) (x i : SV C.T) (K : SV C.T → Tree) : Tree :=
  match P.underlying t with
  | some (.array len e) =>
    if (P.info? e).isSome then
      match x with
      | .ptr id off => idxK i len fun j => K (.ptr id (off + j * szOf P e))
      | .fp cs => idxK i len fun j => if j * szOf P e ≤ cs.length then K (.fp (cs.drop (j * szOf P e))) else .stuck "indexAddr"
      | .a (.ipt cs) => idxK i len fun j => K (.a (.ipt (cs.drop (j * szOf P e))))
      | _ => .stuck "indexAddr"
    else .stuck "indexAddr"
  | some (.slice e) =>
    if (P.info? e).isSome then
      match x with
      | .tl n l => if C.sz n = szOf P e then
          match intOf i with
          | some (_, j) => .need (0 ≤ j ∧ j < (l.length : Int)) (K (.fp (C.enc n (C.at n l j))))
          | none => .stuck "indexAddr"
        else .stuck "indexAddr"
      | .R id => match hget h id with
        | some (.rows n l _ _) => if C.sz n = szOf P e then
            match intOf i with
            | some (_, j) => .need (0 ≤ j ∧ j < (l.length : Int)) (K (.ep id j 0))
            | none => .stuck "indexAddr"
          else .stuck "indexAddr"
        | _ => .stuck "indexAddr: gone"
      | .sl sz id off len _ _ => if sz = szOf P e then idxK i len fun j => K (.ptr id (off + j * sz)) else .stuck "indexAddr"
      | .a (.list sz rows ex) => if sz = szOf P e then idxK i rows.length fun j => opt (rows[j]?) "indexAddr" fun r => K (.a (.ipt r)) else .stuck "indexAddr"
      | _ => .stuck "indexAddr"
    else .stuck "indexAddr"
  | _ => .stuck "indexAddr"

def indexS {T : Nat → Type} (t : TypeId) (x i : SV T) (K : SV T → Tree) : Tree :=
  match P.underlying t with
  | some (.array len e) =>
    if (P.info? e).isSome then
      match x with
      | .agg cs => idxK i len fun j => opt (partS P e cs (j * szOf P e)) "index" K
      | .a (.agg as) => idxK i len fun j => opt (partA P e as (j * szOf P e)) "index" fun v => K (.a v)
      | _ => .stuck "index"
    else .stuck "index"
  | some .string =>
    match x, i with
    | .a (.str s), .a (.int _ n) => match n with
      | .ofNat m => opt (s[m]?) "index" fun b => K (.a (.int .u8 b.toNat))
      | _ => .stuck "index"
    | _, _ =>
      match strOf x, intOf i with
      | some s, some (_, j) => .need (0 ≤ j ∧ j < (s.length : Int)) (K (.i .u8 ((s.getD j.toNat 0).toNat)))
      | _, _ => .stuck "index"
  | _ => .stuck "index"

def lenS (t : TypeId) (h : SH C) (x : SV C.T) (K : SV C.T → Tree) : Tree :=
  match P.underlying t with
  | some .string => match x with
    | .a (.str s) => K (.a (.int .i64 s.length))
    | .s s => K (.i .i64 s.length)
    | _ => .stuck "len"
  | some (.array n _) => match x with
    | .mapr _ => .stuck "len"
    | .any => .stuck "len"
    | .a (.mapr _) => .stuck "len"
    | _ => K (.a (.int .i64 n))
  | some (.slice _) => match x with
    | .a .nils => K (.a (.int .i64 0))
    | .a (.list _ rows _) => K (.a (.int .i64 rows.length))
    | .sl _ _ _ len _ _ => K (.a (.int .i64 len))
    | .tl _ l => K (.i .i64 l.length)
    | .R id => match hget h id with
      | some (.rows _ l _ _) => K (.i .i64 l.length)
      | _ => .stuck "len: gone"
    | _ => .stuck "len"
  | _ => .stuck "len"

def loadS (t : TypeId) (h : SH C) (x : SV C.T) (K : SV C.T → Tree) : Tree :=
  match x with
  | .ptr id off => match hget h id with
    | some (.cells cs) => if off ≤ cs.length then opt (partS P t (cs.drop off) 0) "load" K else .stuck "load"
    | _ => .stuck "load: gone"
  | .ep id i off => match hget h id with
    | some (.rows n l _ _) => .need (0 ≤ i ∧ i < (l.length : Int)) (if off ≤ C.sz n then opt (partS P t ((C.enc n (C.at n l i)).drop off) 0) "load" K else .stuck "load")
    | _ => .stuck "load: gone"
  | .fp cs => opt (partS P t cs 0) "load" K
  | .a (.ipt cs) => opt (partA P t cs 0) "load" fun v => K (.a v)
  | .a (.eptr _ cs) => opt (partA P t cs 0) "load" fun v => K (.a v)
  | _ => .stuck "load"

/-- A value that is wholly there. -/
def litV {T : Nat → Type} : SV T → Option AVal
  | .a v => some v
  | .i k n => some (.int k n)
  | .b t => some (.bool t)
  | .s x => some (.str x)
  | .iface t (.a v) => some (.iface t v)
  | _ => none
def bytesS {T : Nat → Type} : List (SV T) → Option (List UInt8)
  | [] => some []
  | x :: xs => match intOf x with
    | some (.u8, n) => (bytesS xs).map (UInt8.ofNat n.toNat :: ·)
    | _ => none
def convS (s d : TypeId) (h : SH C) (x : SV C.T) (K : SV C.T → Tree) : Tree :=
  match x with
  | .a v => opt (convHA P s d [] v) "convert" fun r => K (.a r)
  | .i _ n => match P.underlying s, P.underlying d with
    | some _, some (.int k) => K (.i k (k.wrap n))
    | _, _ => .stuck "convert"
  | .s x => match P.underlying s, P.underlying d with
    | some _, some .string => K (.s x)
    | _, _ => .stuck "convert"
  | .sl sz id off len _ _ => match P.underlying s, P.underlying d, hget h id with
    | some (.slice e), some .string, some (.cells cs) => match P.underlying e with
      | some (.int .u8) => if sz = 1 ∧ off + len ≤ cs.length then
          match bytesS ((cs.drop off).take len) with
          | some b => K (.s b)
          | none => .stuck "convert: bytes"
        else .stuck "convert"
      | _ => .stuck "convert"
    | _, _, _ => .stuck "convert"
  | _ => .stuck "convert"

def asserts (t : TypeId) (u : TypeId) : Option Bool :=
  match P.underlying t with
  | some (.interface want) => (P.info? u).map fun i => !lacksA want i.methods
  | some _ => some (decide (u = t))
  | none => none

def typeAssertS {T : Nat → Type} (x : SV T) (t : TypeId) (ok : Bool) (K : SV T → Tree) : Tree :=
  match x with
  | .a v => opt (typeAssertA P v t ok) "typeAssert" fun r => K (.a r)
  | .iface u v =>
    match P.underlying t with
    | some (.interface want) =>
      match P.info? u with
      | some i =>
        if lacksA want i.methods then (if ok then opt (zeroA P t) "typeAssert" fun z => K (.tup [.a z, .a (.bool false)]) else .stuck "typeAssert")
        else K (if ok then .tup [.iface u v, .a (.bool true)] else .iface u v)
      | none => .stuck "typeAssert"
    | some _ =>
      if u = t then K (if ok then .tup [v, .a (.bool true)] else v)
      else if ok then opt (zeroA P t) "typeAssert" fun z => K (.tup [.a z, .a (.bool false)]) else .stuck "typeAssert"
    | none => .stuck "typeAssert"
  | _ => .stuck "typeAssert"

def fillS {T : Nat → Type} (place : Nat → Option (Nat × Nat)) (cells : List (SV T)) : List (Nat × SV T) → Option (List (SV T))
  | [] => some cells
  | (i, v) :: rest =>
    match place i with
    | none => none
    | some (off, size) =>
      match cellsS v with
      | none => none
      | some vs => if vs.length ≠ size ∨ off + vs.length > cells.length ∨ !vs.all oneS then none
        else fillS place (cells.take off ++ vs ++ cells.drop (off + vs.length)) rest

def buildS {T : Nat → Type} (t : TypeId) (parts : List (Nat × SV T)) (K : SV T → Tree) : Tree :=
  match zeroA P t with
  | none => .stuck "build"
  | some z =>
    if !z.cells.all AVal.one then .stuck "build" else
    match P.underlying t with
    | some (.struct fs) =>
      if fs.all (fun f => (P.info? f.type).isSome) then opt (fillS (fun i => (fs[i]?).map fun f => (f.offset, szOf P f.type)) (z.cells.map .a) parts) "build" fun cs => K (.agg cs) else .stuck "build"
    | some (.array _ e) => if (P.info? e).isSome then opt (fillS (fun i => some (i * szOf P e, szOf P e)) (z.cells.map .a) parts) "build" fun cs => K (.agg cs) else .stuck "build"
    | _ => .stuck "build"
end

def sEval {C : Codec} (S : AStat) (g : Nat → SV C.T) : Operand → SV C.T
  | .tmp t => g t
  | .const v => .a (constA v)
  | .global x => match S.glob x with
    | some cs => .a (.ipt cs)
    | none => .any
  | .func f => .a (.fn (.func f) [] [])

end Go.Sy

/- The quiet operations on symbolic values are sound. Generic: over any program. -/
namespace Go.Sy
open Go.Am
set_option linter.unusedVariables false
variable {C : Codec} {E : Env}

def Ret (E : Env) (r : Option AVal) (K : SV C.T → Tree) : Prop := ∃ v sv, r = some v ∧ Er E sv v ∧ (K sv).holds

theorem Er.lift (v : AVal) : Er (C := C) E (liftV v) v := by
  cases v <;> simp only [liftV] <;> constructor

theorem cellsS_ok {x : SV C.T} {a : AVal} {cs : List (SV C.T)} (h : Er E x a) (hc : cellsS x = some cs) : Ers E cs a.cells := by
  have one : ∀ {x : SV C.T} {a : AVal}, Er E x a → (∀ as, a ≠ .agg as) → Ers E [x] a.cells := by
    intro x a h ha
    have : a.cells = [a] := by cases a <;> first | rfl | exact (ha _ rfl).elim
    rw [this]
    exact Ers.nil.cons h
  cases h with
  | a =>
    cases a <;> simp only [cellsS, Option.some.injEq] at hc <;> subst hc <;> first
      | exact Ers.mapA _
      | exact Ers.nil.cons (.a _)
  | agg hl hr =>
    simp only [cellsS, Option.some.injEq] at hc
    subst hc
    exact ⟨hl, hr⟩
  | any => cases hc
  | R h hs =>
    simp only [cellsS, Option.some.injEq] at hc
    subst hc
    exact one (.R h hs) (fun as e => by subst e; simp [isSlB] at hs)
  | tup hl hr => simp only [cellsS, Option.some.injEq] at hc; subst hc; exact one (.tup hl hr) (by intro as e; cases e)
  | fn h1 h2 h3 h4 => simp only [cellsS, Option.some.injEq] at hc; subst hc; exact one (.fn h1 h2 h3 h4) (by intro as e; cases e)
  | tlL h1 h2 h3 h4 => simp only [cellsS, Option.some.injEq] at hc; subst hc; exact one (.tlL h1 h2 h3 h4) (by intro as e; cases e)
  | tlS h1 h2 h3 h4 h5 h6 => simp only [cellsS, Option.some.injEq] at hc; subst hc; exact one (.tlS h1 h2 h3 h4 h5 h6) (by intro as e; cases e)
  | fpI h1 h2 h3 => simp only [cellsS, Option.some.injEq] at hc; subst hc; exact one (.fpI h1 h2 h3) (by intro as e; cases e)
  | fpP h1 h2 h3 h4 => simp only [cellsS, Option.some.injEq] at hc; subst hc; exact one (.fpP h1 h2 h3 h4) (by intro as e; cases e)
  | tlN => simp only [cellsS, Option.some.injEq] at hc; subst hc; exact one .tlN (by intro as e; cases e)
  | i k n => simp only [cellsS, Option.some.injEq] at hc; subst hc; exact one (.i k n) (by intro as e; cases e)
  | b k => simp only [cellsS, Option.some.injEq] at hc; subst hc; exact one (.b k) (by intro as e; cases e)
  | s k => simp only [cellsS, Option.some.injEq] at hc; subst hc; exact one (.s k) (by intro as e; cases e)
  | iface k => simp only [cellsS, Option.some.injEq] at hc; subst hc; exact one (.iface k) (by intro as e; cases e)
  | ptr k => simp only [cellsS, Option.some.injEq] at hc; subst hc; exact one (.ptr k) (by intro as e; cases e)
  | ep k => simp only [cellsS, Option.some.injEq] at hc; subst hc; exact one (.ep k) (by intro as e; cases e)
  | sl k => simp only [cellsS, Option.some.injEq] at hc; subst hc; exact one (.sl k) (by intro as e; cases e)
  | mapr k => simp only [cellsS, Option.some.injEq] at hc; subst hc; exact one (.mapr k) (by intro as e; cases e)

theorem oneS_ok {x : SV C.T} {a : AVal} (h : Er E x a) (hc : oneS x = true) : a.one = true := by
  cases h <;> simp only [oneS] at hc <;> first
    | rfl
    | exact hc
    | (cases hc; done)
    | (rename_i hs
       cases a <;> simp only [isSlB] at hs <;> first | rfl | (cases hs; done))

theorem oneS_all {xs : List (SV C.T)} {as : List AVal} (h : Ers E xs as) (hc : xs.all oneS = true) : as.all AVal.one = true := by
  rw [List.all_eq_true] at hc ⊢
  intro a ha
  obtain ⟨i, hi⟩ := List.mem_iff_getElem?.1 ha
  have hl : i < xs.length := by
    rw [h.1]
    rcases Nat.lt_or_ge i as.length with k | k
    · exact k
    · rw [List.getElem?_eq_none k] at hi; cases hi
  exact oneS_ok (h.2 i _ a (List.getElem?_eq_getElem hl) hi) (hc _ (List.getElem_mem hl))

section
variable {P : Program}

theorem partS_ok {t : TypeId} {cs : List (SV C.T)} {as rest : List AVal} {off : Nat} {x : SV C.T} (h : Ers E cs as) (hx : partS P t cs off = some x) : ∃ a, partA P t (as ++ rest) off = some a ∧ Er E x a := by
  unfold partS at hx
  unfold partA
  have aggr : ∀ {z : Nat}, (if off + z ≤ cs.length then some (SV.agg ((cs.drop off).take z)) else none) = some x →
      ∃ a, (if off + z ≤ (as ++ rest).length then some (AVal.agg (((as ++ rest).drop off).take z)) else none) = some a ∧ Er E x a := by
    intro z hx
    split at hx
    · rename_i hle
      simp only [Option.some.injEq] at hx
      subst hx
      have hl := h.1
      rw [if_pos (by simp; omega)]
      refine ⟨_, rfl, ?_⟩
      rw [List.drop_append_of_le_length (by omega), List.take_append_of_le_length (by simp; omega)]
      have := (h.drop off).take z
      exact .agg this.1 this.2
    · cases hx
  split at hx
  · rename_i hu
    rw [hu]
    exact aggr hx
  · rename_i hu
    rw [hu]
    exact aggr hx
  · rename_i h1 h2 hu
    rw [hu]
    obtain ⟨a, ha, hr⟩ := h.get hx
    have hlt : off < as.length := by
      rcases Nat.lt_or_ge off as.length with k | k
      · exact k
      · rw [List.getElem?_eq_none k] at ha; cases ha
    have ha' : (as ++ rest)[off]? = some a := by rw [List.getElem?_append_left hlt]; exact ha
    split
    · rename_i e; exact (h1 _ (Option.some.inj e)).elim
    · rename_i e; exact (h2 _ _ (Option.some.inj e)).elim
    · exact ⟨a, ha', hr⟩
    · rename_i e; cases e
  · cases hx

theorem partS_ok' {t : TypeId} {cs : List (SV C.T)} {as : List AVal} {off : Nat} {x : SV C.T} (h : Ers E cs as) (hx : partS P t cs off = some x) : ∃ a, partA P t as off = some a ∧ Er E x a := by
  obtain ⟨a, h1, h2⟩ := partS_ok (rest := []) h hx
  rw [List.append_nil] at h1
  exact ⟨a, h1, h2⟩

theorem chain_ok {j : Int} {K : Nat → Tree} : ∀ {n : Nat}, (chain j K n).holds → 0 ≤ j → j < (n : Int) → ∃ m : Nat, j = m ∧ m < n ∧ (K m).holds
  | 0, h, _, _ => (stuck_no h).elim
  | 1, h, h0, h1 => ⟨0, by omega, by omega, h⟩
  | m + 2, h, h0, h1 => by
    rcases fork_cases h with ⟨h2, h3⟩ | ⟨h2, h3⟩
    · exact ⟨m + 1, by simpa using h2, by omega, h3⟩
    · have hne : j ≠ ((m + 1 : Nat) : Int) := by simpa using h2
      obtain ⟨k, h4, h5, h6⟩ := chain_ok h3 h0 (by omega)
      exact ⟨k, h4, by omega, h6⟩

theorem idxK_ok {x : SV C.T} {a : AVal} {len : Nat} {K : Nat → Tree} (h : Er E x a) (hk : (idxK x len K).holds) : ∃ j, idxA a = some j ∧ j < len ∧ (K j).holds := by
  unfold idxK at hk
  split at hk
  · cases h
    split at hk
    · rename_i m
      cases hb : Nat.blt m len with
      | true =>
        rw [hb] at hk
        exact ⟨m, by simp [idxA], by rw [Nat.blt_eq] at hb; exact hb, hk⟩
      | false => rw [hb] at hk; exact (stuck_no hk).elim
    · exact (stuck_no hk).elim
  · cases h
    obtain ⟨⟨h1, h2⟩, h3⟩ := hk
    obtain ⟨m, rfl, h4, h5⟩ := chain_ok h3 h1 h2
    exact ⟨m, by simp [idxA], h4, h5⟩
  · exact (stuck_no hk).elim

theorem intOf_ok {x : SV C.T} {a : AVal} {k : IntKind} {n : Int} (h : Er E x a) (hk : intOf x = some (k, n)) : a = .int k n := by
  cases h <;> simp only [intOf] at hk <;> first
    | (cases hk; rfl)
    | (cases hk; done)
    | (cases a <;> simp only at hk <;> first | (cases hk; rfl) | (cases hk; done))
theorem strOf_ok {x : SV C.T} {a : AVal} {s : List UInt8} (h : Er E x a) (hk : strOf x = some s) : a = .str s := by
  cases h <;> simp only [strOf] at hk <;> first
    | (cases hk; rfl)
    | (cases hk; done)
    | (cases a <;> simp only at hk <;> first | (cases hk; rfl) | (cases hk; done))
theorem boolOf_ok {x : SV C.T} {a : AVal} {s : Bool} (h : Er E x a) (hk : boolOf x = some s) : a = .bool s := by
  cases h <;> simp only [boolOf] at hk <;> first
    | (cases hk; rfl)
    | (cases hk; done)
    | (cases a <;> simp only at hk <;> first | (cases hk; rfl) | (cases hk; done))
theorem litV_ok {x : SV C.T} {a v : AVal} (h : Er E x a) (e : litV x = some v) : a = v := by
  unfold litV at e
  split at e <;> first
    | (cases h; cases e; rfl)
    | (cases e; done)
    | skip
  cases e
  cases h with
  | iface h => cases h; rfl
theorem nkS_ok {x : SV C.T} {a : AVal} {p : NK × Bool} (h : Er E x a) (hk : nkS x = some p) : nk a = some p := by
  cases h <;> simp only [nkS] at hk <;> first
    | exact hk
    | (cases hk; done)

theorem divS_ok {op : BinOp} {k : IntKind} {m n : Int} {lit : Bool} {K : SV C.T → Tree} (h : (divS op k m n lit K).holds) (ho : op = .quo ∨ op = .rem) : Ret E (intBin op k m n) K := by
  unfold divS at h
  have key : n ≠ 0 → (match op with
      | .quo => K (.i k (k.wrap (m.tdiv n)))
      | _ => K (.i k (m.tmod n))).holds → Ret E (intBin op k m n) K := by
    intro hn h
    rcases ho with rfl | rfl
    · exact ⟨_, _, by simp [intBin, hn], .i _ _, h⟩
    · exact ⟨_, _, by simp [intBin, hn], .i _ _, h⟩
  cases lit with
  | true =>
    simp only [cond_true] at h
    split at h
    · exact (stuck_no h).elim
    · rename_i hn
      refine key (fun e => ?_) h
      subst e
      exact hn rfl
  | false =>
    simp only [cond_false] at h
    exact key h.1 h.2

theorem intBinS_ok {op : BinOp} {k k' : IntKind} {m n : Int} {lit : Bool} {t : TypeId} {l : Bool} {K : SV C.T → Tree} (h : (intBinS op k k' m n lit K).holds) : Ret E (binA P op t l (.int k m) (.int k' n)) K := by
  have gen : ∀ {op : BinOp}, (∀ k m n, binA P op t l (.int k m) (.int k' n) = if k = k' then intBin op k m n else none) → (if k = k' then opt (intBin op k m n) "no such operation" fun v => K (liftV v) else Tree.stuck "kinds").holds → Ret E (binA P op t l (.int k m) (.int k' n)) K := by
    intro op he h
    rw [he]
    split at h
    · rename_i hk
      rw [if_pos hk]
      obtain ⟨v, h1, h2⟩ := opt_some h
      exact ⟨v, _, h1, .lift v, h2⟩
    · exact (stuck_no h).elim
  have dv : ∀ {op : BinOp}, (op = .quo ∨ op = .rem) → (∀ k m n, binA P op t l (.int k m) (.int k' n) = if k = k' then intBin op k m n else none) → (if k = k' then divS op k m n lit K else Tree.stuck "kinds").holds → Ret E (binA P op t l (.int k m) (.int k' n)) K := by
    intro op ho he h
    rw [he]
    split at h
    · rename_i hk
      rw [if_pos hk]
      exact divS_ok h ho
    · exact (stuck_no h).elim
  cases op <;> simp only [intBinS] at h <;> first
    | exact gen (fun _ _ _ => rfl) h
    | exact dv (.inl rfl) (fun _ _ _ => rfl) h
    | exact dv (.inr rfl) (fun _ _ _ => rfl) h
    | (simp only [shS] at h
       obtain ⟨h1, h2⟩ := h
       refine ⟨_, _, ?_, .i _ _, h2⟩
       simp only [binA, shiftA]
       rw [if_neg (by omega)])

theorem strBinS_ok {op : BinOp} {x y : List UInt8} {t : TypeId} {l : Bool} {K : SV C.T → Tree} (h : (strBinS op x y K).holds) : Ret E (binA P op t l (.str x) (.str y)) K := by
  have gen : ∀ {op : BinOp}, binA P op t l (.str x) (.str y) = strBin op x y → (opt (strBin op x y) "no such operation" fun v => K (liftV v)).holds → Ret E (binA P op t l (.str x) (.str y)) K := by
    intro op he h
    rw [he]
    obtain ⟨v, h1, h2⟩ := opt_some h
    exact ⟨v, _, h1, .lift v, h2⟩
  cases op <;> simp only [strBinS] at h <;> first
    | exact gen rfl h
    | (obtain ⟨h1, h2⟩ := h
       refine ⟨_, _, ?_, .s _, h2⟩
       simp only [binA, strBin]
       rw [if_neg (by omega)])

theorem boolBinS_ok {op : BinOp} {x y : Bool} {t : TypeId} {l : Bool} {K : SV C.T → Tree} (h : (boolBinS P op t x y K).holds) : Ret E (binA P op t l (.bool x) (.bool y)) K := by
  unfold boolBinS at h
  cases hb : boolB P t with
  | false => rw [hb] at h; exact (stuck_no h).elim
  | true =>
    rw [hb] at h
    simp only [cond_true] at h
    cases op <;> first
      | exact (stuck_no h).elim
      | exact ⟨_, _, by simp [binA, eqA, hb], .b _, h⟩

theorem eqA_nk {t : TypeId} {l : Bool} {x y : AVal} {p q : NK × Bool} (hx : nk x = some p) (hy : nk y = some q) (hc : p.1 = q.1 ∧ (p.2 = true ∨ q.2 = true) ∧ nkOk P t p.1 = true ∧ (l = true ∨ p.1 ≠ .i ∨ p.2 = false ∨ q.2 = false)) : eqA P t l x y = some (p.2 && q.2) := by
  obtain ⟨k1, n1⟩ := p
  obtain ⟨k2, n2⟩ := q
  unfold eqA
  split
  · cases hx
  · cases hx
  · rename_i u a v b
    simp only [nk, Option.some.injEq, Prod.mk.injEq] at hx hy
    obtain ⟨rfl, rfl⟩ := hx
    obtain ⟨rfl, rfl⟩ := hy
    simp at hc
  · rw [hx, hy]
    simp only
    rw [if_pos hc]

theorem nilBinS_ok {op : BinOp} {x y : AVal} {p q : NK × Bool} {t : TypeId} {l : Bool} {K : SV C.T → Tree} (hx : nk x = some p) (hy : nk y = some q) (h : (nilBinS P op t l p q K).holds) : Ret E (binA P op t l x y) K := by
  unfold nilBinS at h
  split at h
  · rename_i hc
    have he := eqA_nk hx hy hc
    have hni : ∀ k n, x ≠ .int k n := fun k n e => by subst e; cases hx
    have hns : ∀ s, x ≠ .str s := fun s e => by subst e; cases hx
    cases op <;> first
      | exact (stuck_no h).elim
      | (refine ⟨_, _, ?_, .a _, h⟩
         unfold binA
         split
         · exact (hni _ _ rfl).elim
         · exact (hns _ rfl).elim
         · simp only [he, Option.map_some])
  · exact (stuck_no h).elim

theorem binS_ok {op : BinOp} {t : TypeId} {l : Bool} {x y : SV C.T} {a b : AVal} {K : SV C.T → Tree} (hx : Er E x a) (hy : Er E y b) (h : (binS P op t l x y K).holds) : Ret E (binA P op t l a b) K := by
  unfold binS at h
  cases hl : isLit x && isLit y with
  | true =>
    rw [hl] at h
    simp only [cond_true] at h
    split at h
    · cases hx
      cases hy
      obtain ⟨v, h1, h2⟩ := opt_some h
      exact ⟨v, _, h1, .lift v, h2⟩
    · cases hx
      cases hy
      obtain ⟨v, h1, h2⟩ := opt_some h
      exact ⟨v, _, h1, .a v, h2⟩
    · exact (stuck_no h).elim
  | false =>
    rw [hl] at h
    simp only [cond_false] at h
    split at h
    · rename_i k m k' n h1 h2
      rw [intOf_ok hx h1, intOf_ok hy h2]
      exact intBinS_ok h
    · split at h
      · rename_i s s' h1 h2
        rw [strOf_ok hx h1, strOf_ok hy h2]
        exact strBinS_ok h
      · split at h
        · rename_i s s' h1 h2
          rw [boolOf_ok hx h1, boolOf_ok hy h2]
          exact boolBinS_ok h
        · split at h
          · rename_i p q h1 h2
            exact nilBinS_ok (nkS_ok hx h1) (nkS_ok hy h2) h
          · exact (stuck_no h).elim

theorem unS_ok {op : UnOp} {x : SV C.T} {a : AVal} {K : SV C.T → Tree} (hx : Er E x a) (h : (unS op x K).holds) : Ret E (unA op a) K := by
  unfold unS at h
  split at h
  · cases hx
    obtain ⟨v, h1, h2⟩ := opt_some h
    exact ⟨v, _, h1, .a v, h2⟩
  · cases hx
    obtain ⟨v, h1, h2⟩ := opt_some h
    exact ⟨v, _, h1, .lift v, h2⟩
  · cases hx
    obtain ⟨v, h1, h2⟩ := opt_some h
    exact ⟨v, _, h1, .lift v, h2⟩
  · exact (stuck_no h).elim

theorem fieldAddrS_ok {t : TypeId} {f : Nat} {x : SV C.T} {a : AVal} {K : SV C.T → Tree} (hx : Er E x a) (h : (fieldAddrS P t x f K).holds) : Ret E (fieldAddrA P t a f) K := by
  unfold fieldAddrS at h
  unfold fieldAddrA
  split at h
  · rename_i fs hu
    rw [hu]
    simp only
    split at h
    · rename_i fd hf
      rw [hf]
      simp only
      split at h
      · rename_i hc
        rw [if_pos hc]
        split at h
        · cases hx with
          | ptr hb => exact ⟨_, _, rfl, .ptr hb, h⟩
        · cases hx with
          | ep hb =>
            refine ⟨_, _, rfl, ?_, h⟩
            rw [Nat.add_assoc _ _ fd.offset]
            exact .ep hb
        · split at h
          · rename_i hle
            cases hx with
            | fpI e hl hr =>
              subst e
              have hh : Ers E _ _ := ⟨hl, hr⟩
              have := hh.drop fd.offset
              refine ⟨_, _, rfl, .fpI (List.drop_append_of_le_length (by omega)) this.1 this.2, h⟩
            | fpP hf e hl hr =>
              have hh : Ers E _ _ := ⟨hl, hr⟩
              have := hh.drop fd.offset
              exact ⟨_, _, rfl, .fpP hf (by rw [← List.drop_drop, e, List.drop_append_of_le_length (by omega)]) this.1 this.2, h⟩
          · exact (stuck_no h).elim
        · cases hx
          exact ⟨_, _, rfl, .a _, h⟩
        · cases hx
          exact ⟨_, _, rfl, .a _, h⟩
        · exact (stuck_no h).elim
      · exact (stuck_no h).elim
    · exact (stuck_no h).elim
  · exact (stuck_no h).elim

theorem fieldS_ok {t : TypeId} {f : Nat} {x : SV C.T} {a : AVal} {K : SV C.T → Tree} (hx : Er E x a) (h : (fieldS P t x f K).holds) : Ret E (fieldA P t a f) K := by
  unfold fieldS at h
  unfold fieldA
  split at h
  · rename_i fs hu
    rw [hu]
    split at h
    · rename_i fd hf
      split at h
      · rename_i hc
        split at h
        · cases hx with
          | agg hl hr =>
            obtain ⟨v, h1, h2⟩ := opt_some h
            obtain ⟨w, h3, h4⟩ := partS_ok' (E := E) ⟨hl, hr⟩ h1
            simp only [hf]
            rw [if_pos hc]
            exact ⟨w, v, h3, h4, h2⟩
        · cases hx
          obtain ⟨v, h1, h2⟩ := opt_some h
          simp only [hf]
          rw [if_pos hc]
          exact ⟨v, _, h1, .a v, h2⟩
        · exact (stuck_no h).elim
      · exact (stuck_no h).elim
    · exact (stuck_no h).elim
  · exact (stuck_no h).elim

theorem Codec.at_get {n : Nat} {l : List (C.T n)} {j : Int} (h0 : 0 ≤ j) (h1 : j < (l.length : Int)) : l[j.toNat]? = some (C.at n l j) := by
  have : j.toNat < l.length := by omega
  unfold Codec.at
  rw [List.getD_eq_getElem?_getD, List.getElem?_eq_getElem this]
  rfl

end
end Go.Sy

/- The quiet operations on symbolic values are sound, second half. Generic: over any program. -/
namespace Go.Sy
open Go.Am
set_option linter.unusedVariables false
variable {C : Codec} {E : Env} {P : Program}

theorem hget_some {h : SH C} {id : Nat} {o : Obj C.T} (e : hget h id = some o) : h[id]? = some (some o) := by
  unfold hget at e
  split at e
  · rename_i o' ho
    simp only [Option.some.injEq] at e
    rw [ho, e]
  · cases e

/-- What the codecs owe. -/
structure CodecOk (C : Codec) : Prop where
  len : ∀ (n : Nat) (x : C.T n), (C.enc n x).length = C.sz n
  one : ∀ (n : Nat) (x : C.T n), (C.enc n x).all oneS = true
  ids : ∀ (n : Nat) (x : C.T n), (C.enc n x).all noId = true
  flat : ∀ (n : Nat) (x : C.T n), C.flat n = true → (C.enc n x).all scal = true
  dec : ∀ (n : Nat) (cs : List (SV C.T)) (x : C.T n), C.dec n cs = some x → ∀ (E : Env) (as : List AVal), Ers E cs as → Ers E (C.enc n x) as

theorem Ers.of_at {n : Nat} {l : List (C.T n)} {as : List AVal} {off i : Nat} {y : C.T n} (hC : CodecOk C) (h : ∀ (i : Nat) (y : C.T n) (j : Nat) (x : SV C.T) (a : AVal), l[i]? = some y → (C.enc n y)[j]? = some x → as[off + i * C.sz n + j]? = some a → Er E x a)
    (hy : l[i]? = some y) (hl : off + i * C.sz n + C.sz n ≤ as.length) : Ers E (C.enc n y) ((as.drop (off + i * C.sz n)).take (C.sz n)) := by
  refine ⟨by rw [hC.len]; simp; omega, fun j x a h1 h2 => ?_⟩
  rw [List.getElem?_take] at h2
  split at h2
  · rw [List.getElem?_drop] at h2
    exact h i y j x a hy h1 h2
  · cases h2

theorem mul_le_of {i n z : Nat} (h : i < n) : i * z + z ≤ n * z := by
  have : (i + 1) * z ≤ n * z := Nat.mul_le_mul_right _ h
  rw [Nat.add_mul, Nat.one_mul] at this
  exact this

theorem drop_take_split {as : List AVal} {o z : Nat} : as.drop o = (as.drop o).take z ++ as.drop (o + z) := by
  rw [← List.drop_drop, List.take_append_drop]

theorem indexAddrS_ok {lo wlo : Nat} (hC : CodecOk C) {t : TypeId} {h : SH C} {H : Heap} (hH : SimH E lo wlo h H) {x i : SV C.T} {a b : AVal} {K : SV C.T → Tree} (hx : Er E x a) (hi : Er E i b)
    (hh : (indexAddrS P t h x i K).holds) : Ret E (indexAddrA P t a b) K := by
  unfold indexAddrS at hh
  split at hh
  · rename_i len e hu
    split at hh
    · rename_i hc
      split at hh
      · cases hx with
        | ptr hb =>
          obtain ⟨j, h1, h2, h3⟩ := idxK_ok hi hh
          refine ⟨_, _, ?_, .ptr hb, h3⟩
          simp only [indexAddrA, h1, hu, h2, hc, and_self, if_true]
      · obtain ⟨j, h1, h2, h3⟩ := idxK_ok hi hh
        split at h3
        · rename_i hle
          cases hx with
          | fpI e1 hl hr =>
            rename_i as all rest
            subst e1
            have hE : Ers E _ _ := ⟨hl, hr⟩
            have := hE.drop (j * szOf P e)
            refine ⟨_, _, ?_, .fpI (rest := rest) (List.drop_append_of_le_length (by omega)) this.1 this.2, h3⟩
            simp only [indexAddrA, h1, hu, h2, hc, and_self, if_true]
          | fpP hf e1 hl hr =>
            rename_i as all rest b off
            have hE : Ers E _ _ := ⟨hl, hr⟩
            have := hE.drop (j * szOf P e)
            have e2 : all.drop (off + j * szOf P e) = as.drop (j * szOf P e) ++ rest := by rw [← List.drop_drop, e1, List.drop_append_of_le_length (by omega)]
            refine ⟨.ptr b (off + j * szOf P e), _, ?_, .fpP (rest := rest) hf e2 this.1 this.2, h3⟩
            simp only [indexAddrA, h1, hu, h2, hc, and_self, if_true]
        · exact (stuck_no h3).elim
      · cases hx
        obtain ⟨j, h1, h2, h3⟩ := idxK_ok hi hh
        refine ⟨_, _, ?_, .a _, h3⟩
        simp only [indexAddrA, h1, hu, h2, hc, and_self, if_true]
      · exact (stuck_no hh).elim
    · exact (stuck_no hh).elim
  · rename_i e hu
    split at hh
    · rename_i hc
      split at hh
      · rename_i n l
        split at hh
        · rename_i hsz
          split at hh
          · rename_i k j hj
            obtain ⟨⟨h0, h1⟩, h2⟩ := hh
            rw [intOf_ok hi hj]
            have hat := Codec.at_get (C := C) h0 h1
            have hidx : idxA (.int k j) = some j.toNat := by simp [idxA, h0]
            cases hx with
            | tlN => simp at h1; omega
            | tlL hz hl hs hr =>
              rename_i z rows ex
              have hlt : j.toNat < rows.length := by omega
              have hrow : rows[j.toNat]? = some rows[j.toNat] := List.getElem?_eq_getElem hlt
              refine ⟨.ipt rows[j.toNat], _, ?_, .fpI (rest := []) (List.append_nil _).symm ?_ (fun p q r g1 g2 => hr j.toNat _ _ p q r hat hrow g1 g2), h2⟩
              · simp only [indexAddrA, hidx, hu, hc, if_true, hz, hsz, hrow, Option.map_some]
              · rw [hC.len, hs _ _ hrow]
            | tlS hz hl hf ho hcap hr =>
              rename_i z b off len cap as ex
              have hm := mul_le_of (z := C.sz n) (show j.toNat < l.length by omega)
              have hE := Ers.of_at hC hr hat (by omega)
              refine ⟨.ptr b (off + j.toNat * C.sz n), _, ?_, .fpP hf drop_take_split hE.1 hE.2, h2⟩
              simp only [indexAddrA, hidx, hu, hc, if_true, hz, hsz]
              rw [if_pos ⟨trivial, by omega⟩]
          · exact (stuck_no hh).elim
        · exact (stuck_no hh).elim
      · rename_i id
        split at hh
        · rename_i n l full root ho
          split at hh
          · rename_i hsz
            split at hh
            · rename_i k j hj
              obtain ⟨⟨h0, h1⟩, h2⟩ := hh
              rw [intOf_ok hi hj]
              have hidx : idxA (.int k j) = some j.toNat := by simp [idxA, h0]
              cases hx with
              | R hg hs =>
                rcases hH.obj id _ (hget_some ho) with ⟨rfl, _⟩ | ⟨b, off, cap, ex, as, g1, g2, _, g3, g4, g5, g6, g7, g8⟩
                · simp at h1; omega
                · rw [hg] at g1
                  simp only [Option.some.injEq] at g1
                  subst g1
                  refine ⟨.ptr b (off + j.toNat * C.sz n), _, ?_, .ep (off := 0) hg, h2⟩
                  simp only [indexAddrA, hidx, hu, hc, if_true, hsz]
                  rw [if_pos ⟨trivial, by omega⟩]
            · exact (stuck_no hh).elim
          · exact (stuck_no hh).elim
        · exact (stuck_no hh).elim
      · split at hh
        · rename_i sz id off len cap ex hsz
          cases hx with
          | sl hb =>
            obtain ⟨j, h1, h2, h3⟩ := idxK_ok hi hh
            refine ⟨_, _, ?_, .ptr hb, h3⟩
            simp only [indexAddrA, h1, hu, hc, if_true, hsz]
            rw [if_pos ⟨trivial, h2⟩]
        · exact (stuck_no hh).elim
      · split at hh
        · rename_i sz rows ex hsz
          cases hx
          obtain ⟨j, h1, h2, h3⟩ := idxK_ok hi hh
          obtain ⟨r, h4, h5⟩ := opt_some h3
          refine ⟨_, _, ?_, .a _, h5⟩
          simp only [indexAddrA, h1, hu, hc, if_true, hsz, h4, Option.map_some]
        · exact (stuck_no hh).elim
      · exact (stuck_no hh).elim
    · exact (stuck_no hh).elim
  · exact (stuck_no hh).elim

theorem indexS_ok {t : TypeId} {x i : SV C.T} {a b : AVal} {K : SV C.T → Tree} (hx : Er E x a) (hi : Er E i b) (hh : (indexS P t x i K).holds) : Ret E (indexA P t a b) K := by
  unfold indexS at hh
  split at hh
  · rename_i len e hu
    split at hh
    · rename_i hc
      split at hh
      · cases hx with
        | agg hl hr =>
          obtain ⟨j, h1, h2, h3⟩ := idxK_ok hi hh
          obtain ⟨v, h4, h5⟩ := opt_some h3
          obtain ⟨w, h6, h7⟩ := partS_ok' (E := E) ⟨hl, hr⟩ h4
          exact ⟨w, v, by simp only [indexA, h1, hu, h2, hc, and_self, if_true, h6], h7, h5⟩
      · cases hx
        obtain ⟨j, h1, h2, h3⟩ := idxK_ok hi hh
        obtain ⟨v, h4, h5⟩ := opt_some h3
        exact ⟨v, _, by simp only [indexA, h1, hu, h2, hc, and_self, if_true, h4], .a v, h5⟩
      · exact (stuck_no hh).elim
    · exact (stuck_no hh).elim
  · rename_i hu
    split at hh
    · cases hx
      cases hi
      split at hh
      · obtain ⟨v, h4, h5⟩ := opt_some hh
        exact ⟨_, _, by simp [indexA, idxA, hu, h4], .a _, h5⟩
      · exact (stuck_no hh).elim
    · split at hh
      · rename_i s k j h1 h2
        rw [strOf_ok hx h1, intOf_ok hi h2]
        obtain ⟨⟨h3, h4⟩, h5⟩ := hh
        have hlt : j.toNat < s.length := by omega
        refine ⟨_, _, ?_, .i _ _, h5⟩
        simp only [indexA, idxA, h3, if_true, hu, List.getElem?_eq_getElem hlt, Option.map_some]
        simp [List.getD_eq_getElem?_getD, hlt]
      · exact (stuck_no hh).elim
  · exact (stuck_no hh).elim

theorem lenS_ok {lo wlo : Nat} {t : TypeId} {h : SH C} {H : Heap} (hH : SimH E lo wlo h H) {x : SV C.T} {a : AVal} {K : SV C.T → Tree} (hx : Er E x a) (hh : (lenS P t h x K).holds) : Ret E (lenA P t H a) K := by
  unfold lenS at hh
  split at hh
  · rename_i hu
    split at hh
    · cases hx
      exact ⟨_, _, by simp [lenA, hu], .a _, hh⟩
    · cases hx
      exact ⟨_, _, by simp [lenA, hu], .i _ _, hh⟩
    · exact (stuck_no hh).elim
  · rename_i n e hu
    split at hh
    · exact (stuck_no hh).elim
    · exact (stuck_no hh).elim
    · exact (stuck_no hh).elim
    · rename_i h1 h2 h3
      refine ⟨.int .i64 n, _, ?_, .a _, hh⟩
      have hm : ∀ b, a ≠ .mapr b := by
        rintro b rfl
        cases hx with
        | a => exact h3 b rfl
        | mapr => exact h1 _ rfl
        | any => exact h2 rfl
        | R _ hs => simp [isSlB] at hs
      unfold lenA
      rw [hu]
      split <;> simp_all
  · rename_i e hu
    split at hh
    · cases hx
      exact ⟨_, _, by simp [lenA, hu], .a _, hh⟩
    · cases hx
      exact ⟨_, _, by simp [lenA, hu], .a _, hh⟩
    · cases hx with
      | sl hb => exact ⟨_, _, by simp [lenA, hu], .a _, hh⟩
    · cases hx with
      | tlN => exact ⟨_, _, by simp [lenA, hu], .i _ _, hh⟩
      | tlL h1 h2 => exact ⟨_, _, by simp [lenA, hu, h2], .i _ _, hh⟩
      | tlS h1 h2 => exact ⟨_, _, by simp [lenA, hu, h2], .i _ _, hh⟩
    · rename_i id
      split at hh
      · rename_i n l full root ho
        cases hx with
        | R hg hs =>
          rcases hH.obj id _ (hget_some ho) with ⟨rfl, _, a', g1, g2⟩ | ⟨b, off, cap, ex, as, g1, _⟩
          · rw [hg] at g1
            simp only [Option.some.injEq] at g1
            subst g1
            rcases g2 with rfl | rfl
            · exact ⟨_, _, by simp [lenA, hu], .i _ _, hh⟩
            · exact ⟨_, _, by simp [lenA, hu], .i _ _, hh⟩
          · rw [hg] at g1
            simp only [Option.some.injEq] at g1
            subst g1
            exact ⟨_, _, by simp [lenA, hu], .i _ _, hh⟩
      · exact (stuck_no hh).elim
    · exact (stuck_no hh).elim
  · exact (stuck_no hh).elim

theorem loadS_ok {lo wlo : Nat} (hC : CodecOk C) {t : TypeId} {h : SH C} {H : Heap} (hH : SimH E lo wlo h H) {x : SV C.T} {a : AVal} {K : SV C.T → Tree} (hx : Er E x a) (hh : (loadS P t h x K).holds) : Ret E (loadA P t H a) K := by
  unfold loadS at hh
  split at hh
  · rename_i id off
    split at hh
    · rename_i cs ho
      split at hh
      · rename_i hle
        obtain ⟨v, h1, h2⟩ := opt_some hh
        cases hx with
        | ptr hb =>
          rename_i b
          obtain ⟨b', as, g1, _, g2, g3⟩ := hH.obj id _ (hget_some ho)
          rw [hb] at g1
          simp only [Option.some.injEq] at g1
          subst g1
          obtain ⟨w, h3, h4⟩ := partS_ok' (g3.drop off) h1
          exact ⟨w, v, by simp only [loadA, atA, g2, Option.bind_some, h3], h4, h2⟩
      · exact (stuck_no hh).elim
    · exact (stuck_no hh).elim
  · rename_i id i off
    split at hh
    · rename_i n l full root ho
      obtain ⟨⟨h0, h1⟩, hh⟩ := hh
      split at hh
      · rename_i hle
        obtain ⟨v, h2, h3⟩ := opt_some hh
        have hat := Codec.at_get (C := C) h0 h1
        cases hx with
        | ep hg =>
          rename_i z b o len cap ex
          rcases hH.obj id _ (hget_some ho) with ⟨rfl, _⟩ | ⟨b', off', cap', ex', as, g1, g2, _, g3, g4, g5, g6, g7, g8⟩
          · simp at h1; omega
          · rw [hg] at g1
            simp only [Option.some.injEq, AVal.sl.injEq] at g1
            obtain ⟨rfl, rfl, rfl, rfl, rfl, rfl⟩ := g1
            have hm := mul_le_of (z := C.sz n) (show i.toNat < l.length by omega)
            have hc := Nat.mul_le_mul_right (C.sz n) g4
            have hE := (Ers.of_at hC g8 hat (by omega)).drop off
            rw [List.drop_take] at hE
            obtain ⟨w, h4, h5⟩ := partS_ok (rest := as.drop (o + i.toNat * C.sz n + C.sz n)) hE h2
            have e : as.drop (o + i.toNat * C.sz n + off) = ((as.drop (o + i.toNat * C.sz n)).drop off).take (C.sz n - off) ++ as.drop (o + i.toNat * C.sz n + C.sz n) := by
              rw [List.drop_drop, show o + i.toNat * C.sz n + C.sz n = (o + i.toNat * C.sz n + off) + (C.sz n - off) by omega, ← List.drop_drop (l := as) (i := C.sz n - off), List.take_append_drop]
            exact ⟨w, v, by simp only [loadA, atA, g3, Option.bind_some]; rw [e]; exact h4, h5, h3⟩
      · exact (stuck_no hh).elim
    · exact (stuck_no hh).elim
  · obtain ⟨v, h1, h2⟩ := opt_some hh
    cases hx with
    | fpI e hl hr =>
      subst e
      obtain ⟨w, h3, h4⟩ := partS_ok (E := E) ⟨hl, hr⟩ h1
      exact ⟨w, v, by simp only [loadA, atA, Option.bind_some]; exact h3, h4, h2⟩
    | fpP hf e hl hr =>
      obtain ⟨w, h3, h4⟩ := partS_ok (E := E) ⟨hl, hr⟩ h1
      have := (hH.fr _ _ hf).1
      exact ⟨w, v, by simp only [loadA, atA, this, Option.bind_some, e]; exact h3, h4, h2⟩
  · cases hx
    obtain ⟨v, h1, h2⟩ := opt_some hh
    exact ⟨v, _, by simp only [loadA, atA, Option.bind_some, h1], .a v, h2⟩
  · cases hx
    obtain ⟨v, h1, h2⟩ := opt_some hh
    exact ⟨v, _, by simp only [loadA, atA, Option.bind_some, h1], .a v, h2⟩
  · exact (stuck_no hh).elim

theorem strOfA_nil {s d : TypeId} {v r : AVal} (h : strOfA P s d [] v = some r) (H : Heap) : strOfA P s d H v = some r := by
  unfold strOfA at h ⊢
  split at h
  · rename_i hs hd
    split at h
    · exact h
    · exact h
    · simp at h
    · cases h
  · cases h
theorem convHA_nil {s d : TypeId} {v r : AVal} (h : convHA P s d [] v = some r) (H : Heap) : convHA P s d H v = some r := by
  unfold convHA at h ⊢
  cases e : convA P s d v with
  | some x => rw [e] at h; exact h
  | none => rw [e] at h; exact strOfA_nil h H

theorem bytes_ok : ∀ (n : Nat) {xs : List (SV C.T)} {ys : List AVal} {bs : List UInt8}, Ers E xs ys → n ≤ xs.length → bytesS (xs.take n) = some bs → bytesOf? (chunk 1 n ys) = some bs
  | 0, xs, ys, bs, hE, hn, h => by
    simp only [List.take_zero, bytesS, Option.some.injEq] at h
    subst h
    rfl
  | n + 1, [], ys, bs, hE, hn, h => by simp at hn
  | n + 1, x :: xs, ys, bs, hE, hn, h => by
    obtain ⟨a, ys, rfl, h1, hE⟩ := hE.inv_cons
    simp only [List.take_succ_cons, bytesS] at h
    split at h
    · rename_i m hi
      rw [Option.map_eq_some_iff] at h
      obtain ⟨cs, h2, rfl⟩ := h
      have := bytes_ok n hE (by simpa using hn) h2
      rw [intOf_ok h1 hi]
      show (bytesOf? (chunk 1 n ys)).map _ = _
      rw [this]
      rfl
    · cases h

theorem convS_ok {s d : TypeId} {h : SH C} {lo wlo : Nat} {H : Heap} (hS : SimH E lo wlo h H) {x : SV C.T} {a : AVal} {K : SV C.T → Tree} (hx : Er E x a) (hh : (convS P s d h x K).holds) : Ret E (convHA P s d H a) K := by
  unfold convS at hh
  split at hh
  · cases hx
    obtain ⟨v, h1, h2⟩ := opt_some hh
    exact ⟨v, _, convHA_nil h1 H, .a v, h2⟩
  · cases hx
    split at hh
    · rename_i hs hd
      exact ⟨_, _, by simp [convHA, convA, hs, hd], .i _ _, hh⟩
    · exact (stuck_no hh).elim
  · cases hx
    split at hh
    · rename_i hs hd
      exact ⟨_, _, by simp [convHA, convA, hs, hd], .s _, hh⟩
    · exact (stuck_no hh).elim
  · rename_i sz id off len cap ex
    cases hx with
    | sl hβ =>
    rename_i b
    split at hh
    · rename_i e cs hs hd ho
      split at hh
      · rename_i he
        split at hh
        · rename_i hc
          split at hh
          · rename_i bs hbs
            obtain ⟨rfl, hl⟩ := hc
            obtain ⟨b', ys, g1, gw, g2, g3⟩ := hS.obj id _ (hget_some ho)
            rw [hβ] at g1
            simp only [Option.some.injEq] at g1
            subst g1
            have hlen := g3.1
            have := bytes_ok len (g3.drop off) (by rw [List.length_drop]; omega) hbs
            refine ⟨.str bs, _, ?_, .s _, hh⟩
            simp only [convHA, convA, hs, hd, strOfA, he, g2]
            rw [if_pos (show off + len ≤ ys.length by omega), this]
            rfl
          · exact (stuck_no hh).elim
        · exact (stuck_no hh).elim
      · exact (stuck_no hh).elim
    · exact (stuck_no hh).elim
  · exact (stuck_no hh).elim

theorem typeAssertS_ok {x : SV C.T} {a : AVal} {t : TypeId} {ok : Bool} {K : SV C.T → Tree} (hx : Er E x a) (hh : (typeAssertS P x t ok K).holds) : Ret E (typeAssertA P a t ok) K := by
  unfold typeAssertS at hh
  have two : ∀ {x y : SV C.T} {a b : AVal}, Er E x a → Er E y b → Er E (.tup [x, y]) (.tup [a, b]) := fun h k => .tup rfl (Ers.nil.cons k |>.cons h).2
  split at hh
  · cases hx
    obtain ⟨v, h1, h2⟩ := opt_some hh
    exact ⟨v, _, h1, .a v, h2⟩
  · cases hx with
    | iface hv =>
      rename_i u x a
      simp only [typeAssertA]
      split at hh
      · rename_i want hu
        simp only [hu]
        split at hh
        · rename_i i hi
          simp only [hi]
          split at hh
          · rename_i hl
            rw [if_pos hl]
            split at hh
            · rename_i hok
              obtain ⟨z, h1, h2⟩ := opt_some hh
              exact ⟨_, _, by rw [if_pos hok, h1]; rfl, two (.a z) (.a _), h2⟩
            · exact (stuck_no hh).elim
          · rename_i hl
            rw [if_neg hl]
            refine ⟨_, _, rfl, ?_, hh⟩
            split
            · exact two (.iface hv) (.a _)
            · exact .iface hv
        · exact (stuck_no hh).elim
      · rename_i hne hu
        have e : ∀ (z : Option AVal), (match P.underlying t with
          | some (.interface want) => z
          | some _ => if u = t then some (if ok = true then .tup [a, .bool true] else a) else if ok = true then (zeroA P t).map fun z => .tup [z, .bool false] else none
          | none => none) = if u = t then some (if ok = true then AVal.tup [a, .bool true] else a) else if ok = true then (zeroA P t).map fun z => .tup [z, .bool false] else none := by
          intro z
          split
          · rename_i w e; rw [e] at hu; exact (hne _ (Option.some.inj hu).symm).elim
          · rfl
          · rename_i e; rw [e] at hu; cases hu
        split
        · rename_i w e; rw [e] at hu; exact (hne _ (Option.some.inj hu).symm).elim
        · split at hh
          · rename_i hut
            rw [if_pos hut]
            refine ⟨_, _, rfl, ?_, hh⟩
            split
            · exact two hv (.a _)
            · exact hv
          · rename_i hut
            rw [if_neg hut]
            split at hh
            · rename_i hok
              obtain ⟨z, h1, h2⟩ := opt_some hh
              exact ⟨_, _, by rw [if_pos hok, h1]; rfl, two (.a z) (.a _), h2⟩
            · exact (stuck_no hh).elim
        · rename_i e; rw [e] at hu; cases hu
      · exact (stuck_no hh).elim
  · exact (stuck_no hh).elim

inductive PartsOk (E : Env) : List (Nat × SV C.T) → List (Nat × AVal) → Prop
  | nil : PartsOk E [] []
  | cons {i : Nat} {x : SV C.T} {a : AVal} {xs : List (Nat × SV C.T)} {as : List (Nat × AVal)} : Er E x a → PartsOk E xs as → PartsOk E ((i, x) :: xs) ((i, a) :: as)

theorem fillS_ok {place : Nat → Option (Nat × Nat)} : ∀ {parts : List (Nat × SV C.T)} {as : List (Nat × AVal)} {cells : List (SV C.T)} {ca : List AVal} {r : List (SV C.T)}, PartsOk E parts as → Ers E cells ca → fillS place cells parts = some r → ∃ ra, fillA place ca as = some ra ∧ Ers E r ra
  | [], _, cells, ca, r, hp, hc, h => by
    cases hp
    simp only [fillS, Option.some.injEq] at h
    subst h
    exact ⟨ca, rfl, hc⟩
  | (i, v) :: rest, _, cells, ca, r, hp, hc, h => by
    cases hp with
    | cons hv hp =>
      rename_i a as
      simp only [fillS] at h
      split at h
      · cases h
      · rename_i off size hpl
        split at h
        · cases h
        · rename_i vs hvs
          have hE := cellsS_ok hv hvs
          split at h
          · cases h
          · rename_i hne
            simp only [not_or, Decidable.not_not, Bool.not_eq_true, Bool.not_eq_false'] at hne
            obtain ⟨h1, h2, h3⟩ := hne
            have ho := oneS_all hE h3
            obtain ⟨ra, h4, h5⟩ := fillS_ok hp (((hc.take off).append hE).append (hc.drop (off + vs.length))) h
            refine ⟨ra, ?_, h5⟩
            have hl1 := hE.1
            have hl2 := hc.1
            simp only [fillA, hpl]
            rw [if_neg (by simp only [not_or, Decidable.not_not, Bool.not_eq_true, Bool.not_eq_false']; exact ⟨by omega, by omega, ho⟩)]
            rw [← hl1]
            exact h4

theorem buildS_ok {t : TypeId} {parts : List (Nat × SV C.T)} {as : List (Nat × AVal)} {K : SV C.T → Tree} (hp : PartsOk E parts as) (hh : (buildS P t parts K).holds) : Ret E (buildA P t as) K := by
  unfold buildS at hh
  unfold buildA
  split at hh
  · exact (stuck_no hh).elim
  · rename_i z hz
    simp only [hz]
    split at hh
    · exact (stuck_no hh).elim
    · rename_i hall
      rw [if_neg hall]
      split at hh
      · rename_i fs hu
        simp only [hu]
        split at hh
        · rename_i hc
          rw [if_pos hc]
          obtain ⟨cs, h1, h2⟩ := opt_some hh
          obtain ⟨ra, h3, h4⟩ := fillS_ok hp (Ers.mapA z.cells) h1
          exact ⟨_, _, by rw [h3]; rfl, .agg h4.1 h4.2, h2⟩
        · exact (stuck_no hh).elim
      · rename_i n e hu
        simp only [hu]
        split at hh
        · rename_i hc
          rw [if_pos hc]
          obtain ⟨cs, h1, h2⟩ := opt_some hh
          obtain ⟨ra, h3, h4⟩ := fillS_ok hp (Ers.mapA z.cells) h1
          exact ⟨_, _, by rw [h3]; rfl, .agg h4.1 h4.2, h2⟩
        · exact (stuck_no hh).elim
      · exact (stuck_no hh).elim

end Go.Sy

/- A run over symbolic values: what is owed comes out as a tree. Generic: over any program. -/
namespace Go.Sy
open Go.Am
set_option linter.unusedVariables false
variable {C : Codec}

/-! ### Cuts of slices -/
def bndN {T : Nat → Type} (d : Nat) : Option (SV T) → Option Nat
  | none => some d
  | some (.a (.int _ (.ofNat m))) => some m
  | _ => none
def bndI {T : Nat → Type} (d : Int) : Option (SV T) → Option Int
  | none => some d
  | some v => (intOf v).map (·.2)
def litO {T : Nat → Type} : Option (SV T) → Option (Option AVal)
  | none => some none
  | some (.a v) => some (some v)
  | _ => none

def sliceS (P : Program) (wlo : Nat) (t : TypeId) (h : SH C) (x : SV C.T) (lo hi mx : Option (SV C.T)) (K : SV C.T → SH C → Tree) : Tree :=
  match x with
  | .a v => match litO lo, litO hi, litO mx with
    | some lo, some hi, some mx => opt (sliceA P t [] v lo hi mx) "slice" fun r => K (.a r) h
    | _, _, _ => match strOf x, mx, P.underlying t with
      | some s, none, some .string => match bndI 0 lo, bndI s.length hi with
        | some l, some u => .need (0 ≤ l ∧ l ≤ u ∧ u ≤ (s.length : Int)) (K (.s ((s.drop l.toNat).take (u.toNat - l.toNat))) h)
        | _, _ => .stuck "slice"
      | _, _, _ => .stuck "slice"
  | .s s => match mx, P.underlying t with
    | none, some .string => match bndI 0 lo, bndI s.length hi with
      | some l, some u => .need (0 ≤ l ∧ l ≤ u ∧ u ≤ (s.length : Int)) (K (.s ((s.drop l.toNat).take (u.toNat - l.toNat))) h)
      | _, _ => .stuck "slice"
    | _, _ => .stuck "slice"
  | .tl n l => match P.underlying t with
    | some (.slice e) => if (P.info? e).isSome ∧ C.sz n = szOf P e then
        match mx with
        | none => match bndI 0 lo, bndI l.length hi with
          | some p, some u => .need (0 ≤ p ∧ p ≤ u ∧ u ≤ (l.length : Int)) (K (.tl n ((l.drop p.toNat).take (u.toNat - p.toNat))) h)
          | _, _ => .stuck "slice"
        | some m => match bndN 0 lo, hi, bndN 0 (some m) with
          | some 0, some u, some 0 => match bndN 0 (some u) with
            | some 0 => K (.R h.length) (h ++ [some (.rows n [] true h.length)])
            | _ => .stuck "slice"
          | _, _, _ => .stuck "slice"
      else .stuck "slice"
    | _ => .stuck "slice"
  | .R id => match P.underlying t, mx, hget h id with
    | some (.slice e), none, some (.rows n l full root) => if (P.info? e).isSome ∧ C.sz n = szOf P e ∧ wlo ≤ id then
        match bndI 0 lo, bndI l.length hi with
        | some p, some u => .need (0 ≤ p ∧ p ≤ u ∧ u ≤ (l.length : Int)) (K (.R h.length) (h.set id none ++ [some (.rows n ((l.drop p.toNat).take (u.toNat - p.toNat)) (full && hi.isNone) root)]))
        | _, _ => .stuck "slice"
      else .stuck "slice"
    | _, _, _ => .stuck "slice"
  | .sl sz id off len cap ex => match P.underlying t with
    | some (.slice e) => if (P.info? e).isSome ∧ sz = szOf P e then
        match mx with
        | none => match bndN 0 lo, bndN len hi with
          | some p, some u => if p ≤ u ∧ u ≤ cap then K (.sl sz id (off + p * sz) (u - p) (cap - p) ex) h else .stuck "slice"
          | _, _ => .stuck "slice"
        | some m => match bndN 0 lo, hi, bndN 0 (some m) with
          | some p, some u, some m => match bndN 0 (some u) with
            | some u => if p ≤ u ∧ u ≤ m ∧ m ≤ cap then (bif Nat.ble m p then K (.a (.list sz [] true)) h else K (.sl sz id (off + p * sz) (u - p) (m - p) true) h) else .stuck "slice"
            | none => .stuck "slice"
          | _, _, _ => .stuck "slice"
      else .stuck "slice"
    | _ => .stuck "slice"
  | .ptr id off => match P.underlying t, mx, hget h id with
    | some (.array n e), none, some (.cells cs) => if (P.info? e).isSome ∧ off + n * szOf P e ≤ cs.length then
        match bndN 0 lo, bndN n hi with
        | some p, some u => if p ≤ u ∧ u ≤ n then K (.sl (szOf P e) id (off + p * szOf P e) (u - p) (n - p) true) h else .stuck "slice"
        | _, _ => .stuck "slice"
      else .stuck "slice"
    | _, _, _ => .stuck "slice"
  | _ => .stuck "slice"

def pickS {T : Nat → Type} (c a b : SV T) (K : SV T → Tree) : Tree :=
  match c with
  | .a (.bool true) => K a
  | .a (.bool false) => K b
  | .b t => .fork t (K a) (K b)
  | _ => .stuck "pick"

def nilCheckS {T : Nat → Type} (x : SV T) (K : SV T → Tree) : Tree :=
  match x with
  | .ptr id off => K (.ptr id off)
  | .ep id i off => K (.ep id i off)
  | .fp cs => K (.fp cs)
  | .fn (.func f) a b => K (.fn (.func f) a b)
  | .a v => opt (nilCheckA v) "nilCheck" fun r => K (.a r)
  | _ => .stuck "nilCheck"

def extractS {T : Nat → Type} (x : SV T) (i : Nat) (K : SV T → Tree) : Tree :=
  match x with
  | .tup vs => opt (vs[i]?) "extract" K
  | .a (.tup vs) => opt (vs[i]?) "extract" fun v => K (.a v)
  | _ => .stuck "extract"

def minS {T : Nat → Type} (mx : Bool) (args : List (SV T)) (K : SV T → Tree) : Tree :=
  match args with
  | [x, y] => match intOf x, intOf y with
    | some (k, m), some (_, n) => bif isLit x && isLit y then K (.a (.int k (bif mx then (if m < n then n else m) else (if n < m then n else m))))
        else K (.i k (bif mx then (if m < n then n else m) else (if n < m then n else m)))
    | _, _ => .stuck "min"
  | _ => .stuck "min"

def quietX (S : AStat) (wlo : Nat) (ev : Operand → SV C.T) (h : SH C) (op : Op) (K : SV C.T → SH C → Tree) : Tree :=
  match op with
  | .move x => K (ev x) h
  | .assign x => K (ev x) h
  | .pick c a b => pickS (ev c) (ev a) (ev b) fun v => K v h
  | .build t parts => buildS S.P t (parts.toList.map fun p => (p.1, ev p.2)) fun v => K v h
  | .load t x => loadS S.P t h (ev x) fun v => K v h
  | .nilCheck x => nilCheckS (ev x) fun v => K v h
  | .binOp op t x y _ => binS S.P op t (litB x || litB y) (ev x) (ev y) fun v => K v h
  | .unOp op _ x => unS op (ev x) fun v => K v h
  | .convert s d x => convS S.P s d h (ev x) fun v => K v h
  | .makeInterface t x => if ifaceB S.P t then .stuck "makeInterface" else K (.iface t (ev x)) h
  | .makeFunc f first captured => K (.fn f (first.toList.map ev) (captured.toList.map ev)) h
  | .slice t x lo hi mx => sliceS S.P wlo t h (ev x) (lo.map ev) (hi.map ev) (mx.map ev) K
  | .fieldAddr t x f => fieldAddrS S.P t (ev x) f fun v => K v h
  | .field t x f => fieldS S.P t (ev x) f fun v => K v h
  | .indexAddr t x i => indexAddrS S.P t h (ev x) (ev i) fun v => K v h
  | .index t x i => indexS S.P t (ev x) (ev i) fun v => K v h
  | .extract x i => extractS (ev x) i fun v => K v h
  | .typeAssert x _ t ok => typeAssertS S.P (ev x) t ok fun v => K v h
  | .call c => match c.callee with
    | .builtin .len => match c.argTypes[0]?, c.args[0]? with
      | some t, some x => lenS S.P t h (ev x) fun v => K v h
      | _, _ => .stuck "len"
    | .builtin .min => minS false (c.args.toList.map ev) fun v => K v h
    | .builtin .max => minS true (c.args.toList.map ev) fun v => K v h
    | _ => .stuck "quiet call"
  | _ => .stuck "quiet"

/-! ### What makes a block -/
def newX (S : AStat) (ev : Operand → SV C.T) (op : Op) (K : (Nat → Obj C.T) → (Nat → SV C.T) → Tree) : Tree :=
  match op with
  | .alloc t => match zeroA S.P t with
    | some z => if z.cells.all AVal.one then K (fun _ => .cells (z.cells.map .a)) (fun id => .ptr id 0) else .stuck "alloc"
    | none => .stuck "alloc"
  | .box _ x => match cellsS (ev x) with
    | some cs => if cs.all oneS then K (fun _ => .cells cs) (fun id => .ptr id 0) else .stuck "box"
    | none => .stuck "box"
  | .buildSlice t len parts => match S.P.underlying t with
    | some (.slice e) => match zeroA S.P e with
      | none => .stuck "buildSlice"
      | some z => if z.cells.length = szOf S.P e ∧ szOf S.P e ≠ 0 ∧ z.cells.all AVal.one ∧ len * szOf S.P e ≤ 16777216 then
          match fillS (fun i => some (i * szOf S.P e, szOf S.P e)) (((List.replicate len z.cells).flatten).map .a) (parts.toList.map fun p => (p.1, ev p.2)) with
          | some cs => K (fun _ => .cells cs) (fun id => .sl (szOf S.P e) id 0 len len false)
          | none => .stuck "buildSlice: parts"
        else .stuck "buildSlice"
    | _ => .stuck "buildSlice"
  | .makeSlice t l c => match S.P.underlying t with
    | some (.slice e) => match zeroA S.P e with
      | none => .stuck "makeSlice"
      | some z => if z.cells.length = szOf S.P e ∧ szOf S.P e ≠ 0 ∧ z.cells.all AVal.one then
          match bndN 0 (some (ev l)), bndN 0 (some (ev c)) with
          | some l, some c => if l ≤ c ∧ c * S.P.bytesOf e ≤ 281474976710656 ∧ c ≤ 9223372036854775807 then
              K (fun _ => .cells (((List.replicate c z.cells).flatten).map .a)) (fun id => .sl (szOf S.P e) id 0 l c true) else .stuck "makeSlice"
          | _, _ => match intOf (ev l), intOf (ev c), C.ofTy e with
            | some (_, l), some (_, c), some n => match C.dec n (z.cells.map .a) with
              | some x => if C.sz n = szOf S.P e then .need (0 ≤ l ∧ l = c ∧ c * S.P.bytesOf e ≤ 281474976710656 ∧ c ≤ 9223372036854775807) (K (fun id => .rows n (List.replicate l.toNat x) true id) (fun id => .R id)) else .stuck "makeSlice"
              | none => .stuck "makeSlice"
            | _, _, _ => .stuck "makeSlice"
        else .stuck "makeSlice"
    | _ => .stuck "makeSlice"
  | .makeMap _ none => K (fun _ => .mp []) (fun id => .mapr id)
  | _ => .stuck "new"

/-! ### What turns memory -/
def storeX (P : Program) (wlo : Nat) (t : TypeId) (h : SH C) (x v : SV C.T) (K : SV C.T → SH C → Tree) : Tree :=
  match cellsS v with
  | none => .stuck "store"
  | some vs =>
    if vs.length = szOf P t ∧ (P.info? t).isSome ∧ vs.all oneS then
      match x with
      | .ptr id off => match hget h id with
        | some (.cells cs) => if wlo ≤ id ∧ off + vs.length ≤ cs.length then K (.a undefA) (h.set id (some (.cells (cs.take off ++ vs ++ cs.drop (off + vs.length))))) else .stuck "store: not one's own"
        | _ => .stuck "store: gone"
      | .ep id i off => match hget h id with
        | some (.rows n l full root) => if wlo ≤ id ∧ off + vs.length ≤ C.sz n then
            match C.dec n ((C.enc n (C.at n l i)).take off ++ vs ++ (C.enc n (C.at n l i)).drop (off + vs.length)) with
            | some y => .need (0 ≤ i ∧ i < (l.length : Int)) (K (.a undefA) (h.set id (some (.rows n (l.set i.toNat y) full root))))
            | none => .stuck "store: a row"
          else .stuck "store: not one's own"
        | _ => .stuck "store: gone"
      | _ => .stuck "store"
    else .stuck "store: cells"

def chunkS {T : Nat → Type} (sz : Nat) : Nat → List (SV T) → List (List (SV T))
  | 0, _ => []
  | n + 1, cs => cs.take sz :: chunkS sz n (cs.drop sz)

def decAll (n : Nat) : List (List (SV C.T)) → Option (List (C.T n))
  | [] => some []
  | r :: rs => match C.dec n r with
    | none => none
    | some x => match decAll n rs with
      | none => none
      | some xs => some (x :: xs)

inductive Src (C : Codec) where
  | lit (rows : List (List (SV C.T)))
  | typ (n : Nat) (l : List (C.T n))
  | no

def srcS (h : SH C) (sz : Nat) (x : SV C.T) : Src C :=
  match x with
  | .a .nils => .lit []
  | .a (.list s rows _) => if s = sz ∧ (rows.all fun r => r.length == sz) then .lit (rows.map (List.map .a)) else .no
  | .a (.str s) => if sz = 1 then .lit (s.map fun b => [.a (.int .u8 b.toNat)]) else .no
  | .sl s id off len _ _ => if s = sz then
      match hget h id with
      | some (.cells cs) => if off + len * sz ≤ cs.length then .lit (chunkS sz len (cs.drop off)) else .no
      | _ => .no
    else .no
  | .tl n l => if C.sz n = sz then .typ n l else .no
  | .R id => match hget h id with
    | some (.rows n l _ _) => if C.sz n = sz then .typ n l else .no
    | _ => .no
  | _ => .no

def castL {C : Codec} {n m : Nat} (e : n = m) (l : List (C.T n)) : List (C.T m) := e ▸ l

def appendX (P : Program) (wlo : Nat) (t u : TypeId) (h : SH C) (s x : SV C.T) (K : SV C.T → SH C → Tree) : Tree :=
  match P.underlying t with
  | some (.slice e) =>
    if (P.info? e).isSome ∧ szOf P e ≠ 0 ∧ notIntB P u = true ∧ zeroFits P e = true ∧ P.bytesOf e ≠ 0 then
      match srcS h (szOf P e) x with
      | .no => .stuck "append: what"
      | .lit rows =>
        if !(rows.flatten.all oneS) then .stuck "append: cells" else
        match s with
        | .a .nils =>
          if rows.length = 0 then K (.a .nils) h
          else if rows.length * P.bytesOf e ≤ 140737488355328 then K (.sl (szOf P e) h.length 0 rows.length rows.length false) (h ++ [some (.cells rows.flatten)])
          else .stuck "append: size"
        | .sl s0 id off len cap ex =>
          if s0 ≠ szOf P e then .stuck "append: size" else
          match hget h id with
          | some (.cells cs) =>
            if off + len * szOf P e ≤ cs.length then
              if rows.length = 0 then K (.sl s0 id off len cap ex) h
              else if len + rows.length ≤ cap then
                if wlo ≤ id ∧ off + (len + rows.length) * szOf P e ≤ cs.length then
                  K (.sl (szOf P e) id off (len + rows.length) cap ex) (h.set id (some (.cells (cs.take (off + len * szOf P e) ++ rows.flatten ++ cs.drop (off + len * szOf P e + rows.flatten.length)))))
                else .stuck "append: not one's own"
              else if (len + rows.length) * P.bytesOf e ≤ 140737488355328 then
                bif ex then K (.sl (szOf P e) h.length 0 (len + rows.length) (len + rows.length) false) (h ++ [some (.cells ((cs.drop off).take (len * szOf P e) ++ rows.flatten))])
                else if wlo ≤ id ∧ off + len * szOf P e = cs.length then K (.sl (szOf P e) h.length 0 (len + rows.length) (len + rows.length) false) (h.set id none ++ [some (.cells (cs.drop off ++ rows.flatten))])
                else .stuck "append: not one's own"
              else .stuck "append: size"
            else .stuck "append: size"
          | _ => .stuck "append: gone"
        | .R id => match hget h id with
          | some (.rows n l full root) =>
            if C.sz n = szOf P e ∧ wlo ≤ id then
              match decAll n rows with
              | none => .stuck "append: a row"
              | some xs => match xs with
                | [] => K (.R id) h
                | y :: ys => if full = true ∨ ys.length = 0 then
                    .need ((l.length + (y :: ys).length) * P.bytesOf e ≤ 140737488355328) (K (.R h.length) (h.set id none ++ [some (.rows n (l ++ y :: ys) full root)]))
                  else .stuck "append: how much room"
            else .stuck "append: not one's own"
          | _ => .stuck "append: gone"
        | _ => .stuck "append: to what"
      | .typ n l' =>
        match s with
        | .a .nils => .need (l'.length * P.bytesOf e ≤ 140737488355328) (K (.R h.length) (h ++ [some (.rows n l' true h.length)]))
        | .R id => match hget h id with
          | some (.rows m l full root) =>
            if C.sz m = szOf P e ∧ wlo ≤ id ∧ full = true then
              if em : n = m then .need ((l.length + l'.length) * P.bytesOf e ≤ 140737488355328) (K (.R h.length) (h.set id none ++ [some (.rows m (l ++ castL em l') full root)]))
              else .stuck "append: rows of two kinds"
            else .stuck "append: not one's own"
          | _ => .stuck "append: gone"
        | .sl s0 id off len cap ex => match hget h id with
          | some (.cells cs) =>
            if s0 = szOf P e ∧ wlo ≤ id ∧ off + len * szOf P e = cs.length ∧ cap = len ∧ ex = false then
              match decAll n (chunkS (szOf P e) len (cs.drop off)) with
              | none => .stuck "append: a row"
              | some xs => .need ((xs.length + l'.length) * P.bytesOf e ≤ 140737488355328) (K (.R h.length) (h.set id none ++ [some (.rows n (xs ++ l') true id)]))
            else .stuck "append: to what"
          | _ => .stuck "append: gone"
        | _ => .stuck "append: to what"
    else .stuck "append: types"
  | _ => .stuck "append: types"

abbrev CallX (C : Codec) := Nat → FuncId → List (SV C.T) → SH C → (SV C.T → SH C → Tree) → Tree

def litsS {T : Nat → Type} : List (SV T) → Option (List AVal)
  | [] => some []
  | .a v :: xs => (litsS xs).map (v :: ·)
  | _ :: _ => none
def ifaceS {T : Nat → Type} : SV T → Option (TypeId × SV T)
  | .iface t v => some (t, v)
  | .a (.iface t v) => some (t, .a v)
  | _ => none
/-- A call of a function by its name: the program's, or the machine's own. -/
def callG (S : AStat) (noExt : FuncId → Bool) (call : CallX C) (wlo : Nat) (g : FuncId) (xs : List (SV C.T)) (h : SH C) (K : SV C.T → SH C → Tree) : Tree :=
  bif noExt g then call wlo g xs h K else match litsS xs with
  | some as => match S.ext g as with
    | some v => K (.a v) h
    | none => .stuck "ext"
  | none => .stuck "ext"

def effX (S : AStat) (noExt : FuncId → Bool) (call : CallX C) (wlo : Nat) (ev : Operand → SV C.T) (h : SH C) (op : Op) (K : SV C.T → SH C → Tree) : Tree :=
  match op with
  | .store t x v => storeX S.P wlo t h (ev x) (ev v) K
  | .call c => match c.callee with
    | .builtin .append => match c.args.toList.map ev, c.argTypes.toList with
      | [s, x], [t, u] => appendX S.P wlo t u h s x K
      | _, _ => .stuck "append"
    | .value f => match ev f with
      | .a (.fn (.func g) first captured) => callG S noExt call wlo g (first.map .a ++ c.args.toList.map ev ++ captured.map .a) h K
      | .fn (.func g) first captured => callG S noExt call wlo g (first ++ c.args.toList.map ev ++ captured) h K
      | _ => .stuck "call of what"
    | .invoke r name => match ifaceS (ev r) with
      | some (t, v) => match S.meth t name, nkS v with
        | some g, some (.p, _) => call wlo g (v :: c.args.toList.map ev) h K
        | _, _ => match v, litsS (c.args.toList.map ev) with
          | .a v0, some as => match S.methV t name v0 with
            | some (g, v1) => match S.ext g (v1 :: as) with
              | some w => K (.a w) h
              | none => .stuck "ext"
            | none => .stuck "invoke"
          | _, _ => .stuck "invoke"
      | none => .stuck "invoke"
    | _ => .stuck "builtin"
  | _ => .stuck "no such operation"

noncomputable def sPut (r : SR C) (dst : Option Tmp) (v : SV C.T) : SR C :=
  match dst with
  | some d => r.set d v
  | none => r

/-- Is an operation wanted? Where that is open: both. -/
noncomputable def guardX (ops : List Oper) (r : SR C) (o : Oper) (yes no : SR C → Tree) : Tree :=
  match o.guard with
  | none => yes r
  | some (j, want) =>
    match (ops[j]?).bind (·.dst) with
    | none => no r
    | some d => bif Nat.blt d r.n then
        match r.get d with
        | .a (.bool b) => bif b == want then yes r else no r
        | .a (.tup _) => no r
        | .b t => bif want then .fork t (yes (r.set d (.a (.bool true)))) (no (r.set d (.a (.bool false)))) else .fork t (no (r.set d (.a (.bool true)))) (yes (r.set d (.a (.bool false))))
        | _ => .stuck "guard"
      else no r

structure Cf (C : Codec) where
  S : AStat
  noExt : FuncId → Bool

noncomputable def opX (F : Cf C) (call : CallX C) (wlo : Nat) (r : SR C) (h : SH C) (o : Oper) (K : SV C.T → SH C → Tree) : Tree :=
  bif isNewB o.op then newX F.S (sEval F.S r.get) o.op fun ob mk => K (mk h.length) (h ++ [some (ob h.length)])
  else bif isEffB o.op then effX F.S F.noExt call wlo (sEval F.S r.get) h o.op K
  else quietX F.S wlo (sEval F.S r.get) h o.op K

noncomputable def opsX (F : Cf C) (call : CallX C) (wlo : Nat) (ops : List Oper) : List Oper → SR C → SH C → (SR C → SH C → Tree) → Tree
  | [], r, h, K => K r h
  | o :: rest, r, h, K => guardX ops r o
      (fun r => opX F call wlo r h o fun v h' => opsX F call wlo ops rest (sPut r o.dst v) h' K)
      (fun r => opsX F call wlo ops rest (sPut r o.dst (.a undefA)) h K)

inductive Kt where
  | c (x : Code)
  | blk (id : Nat)
  | lp (b : Code)

def unwind (i : Nat) : List Kt → Option (List Kt)
  | [] => none
  | .blk id :: k => bif Nat.beq i id then some k else unwind i k
  | .c _ :: k => unwind i k
  | .lp _ :: k => unwind i k

end Go.Sy

/- How the shape of a memory is carried along as objects come, turn and go. Generic: over any program. -/
namespace Go.Sy
open Go.Am
set_option linter.unusedVariables false
variable {C : Codec} {E : Env}

structure LeN (n N : Nat) (E E' : Env) : Prop where
  le : E.le E'
  old : ∀ id, id < n → E'.β id = E.β id ∧ E'.γ id = E.γ id
  fr : ∀ b cs, E'.Fr b cs → E.Fr b cs
  own : ∀ b r, E'.ω b = some r → E.ω b = some r ∨ N ≤ b

theorem LeN.refl {N : Nat} (n : Nat) (E : Env) : LeN n N E E := ⟨Env.le.refl E, fun _ _ => ⟨rfl, rfl⟩, fun _ _ h => h, fun _ _ h => .inl h⟩
theorem LeN.trans {n m N M : Nat} {E E' E'' : Env} (hnm : n ≤ m) (hNM : N ≤ M) (h : LeN n N E E') (k : LeN m M E' E'') : LeN n N E E'' :=
  ⟨h.le.trans k.le, fun id hid => ⟨(k.old id (by omega)).1.trans (h.old id hid).1, (k.old id (by omega)).2.trans (h.old id hid).2⟩, fun b cs x => h.fr b cs (k.fr b cs x), fun b r x => by
    rcases k.own b r x with h1 | h1
    · exact h.own b r h1
    · exact .inr (by omega)⟩

def Env.put (E : Env) (n : Nat) (β' : Option Nat) (a : AVal) (root : Nat) : Env where
  β := fun i => if i = n then β' else E.β i
  γ := fun i => if i = n then some a else E.γ i
  ω := fun b => if β' = some b then some root else E.ω b
  Fr := E.Fr

theorem ObjOk.heap {H H' : Heap} {id : Nat} {o : Obj C.T} (hb : ∀ b, E.β id = some b → H'[b]? = H[b]?) (h : ObjOk E H id o) : ObjOk E H' id o := by
  cases o with
  | cells cs =>
    obtain ⟨b, as, h1, hw, h2, h3⟩ := h
    exact ⟨b, as, h1, hw, by rw [hb b h1]; exact h2, h3⟩
  | mp es =>
    obtain ⟨b, as, h1, hw, h2, h3⟩ := h
    exact ⟨b, as, h1, hw, by rw [hb b h1]; exact h2, h3⟩
  | rows n l full root =>
    rcases h with h | ⟨b, off, cap, ex, as, h1, h2, hw, h3, h4⟩
    · exact .inl h
    · exact .inr ⟨b, off, cap, ex, as, h1, h2, hw, by rw [hb b h2]; exact h3, h4⟩

theorem lt_of_some {α : Type} {l : List α} {i : Nat} {a : α} (h : l[i]? = some a) : i < l.length := by
  rcases Nat.lt_or_ge i l.length with k | k
  · exact k
  · rw [List.getElem?_eq_none k] at h; cases h

/-- An object comes, in the place of another one or not. -/
theorem SimH.putN {lo wlo N : Nat} {h : SH C} {H H' : Heap} (hS : SimH E lo wlo h H) (id : Nat) (o' : Obj C.T) (β' : Option Nat) (a : AVal) (root : Nat) (hl : H.length ≤ H'.length)
    (hX : ∀ b, b < H.length → H'[b]? ≠ H[b]? → (∀ cs, ¬ E.Fr b cs) ∧ ∀ (i : Nat) (o : Obj C.T), i ≠ id → h[i]? = some (some o) → E.β i ≠ some b)
    (hb : ∀ b, β' = some b → b < H'.length ∧ lo ≤ b ∧ (∀ cs, ¬ E.Fr b cs) ∧ (∀ (i : Nat) (o : Obj C.T), i ≠ id → h[i]? = some (some o) → E.β i ≠ some b) ∧ ((E.ω b = none ∧ N ≤ b) ∨ E.ω b = some root))
    (ho : LeN h.length N E (E.put h.length β' a root) → ObjOk (E.put h.length β' a root) H' h.length o') :
    LeN h.length N E (E.put h.length β' a root) ∧ SimH (E.put h.length β' a root) lo wlo (h.set id none ++ [some o']) H' := by
  have fresh := hS.fresh h.length (Nat.le_refl _)
  have hle : LeN h.length N E (E.put h.length β' a root) := by
    refine ⟨⟨?_, ?_, ?_, fun _ _ h => h⟩, ?_, fun _ _ h => h, ?_⟩
    · intro i b hi
      simp only [Env.put]
      split
      · rename_i e; subst e; rw [fresh.1] at hi; cases hi
      · exact hi
    · intro i b hi
      simp only [Env.put]
      split
      · rename_i e; subst e; rw [fresh.2] at hi; cases hi
      · exact hi
    · intro b r hr
      simp only [Env.put]
      split
      · rename_i e
        rcases (hb b e).2.2.2.2 with h1 | h1
        · rw [h1.1] at hr; cases hr
        · rw [h1] at hr; exact hr
      · exact hr
    · intro i hi
      simp only [Env.put]
      rw [if_neg (by omega), if_neg (by omega)]
      exact ⟨rfl, rfl⟩
    · intro b r hr
      simp only [Env.put] at hr
      split at hr
      · rename_i e
        rcases (hb b e).2.2.2.2 with h1 | h1
        · exact .inr h1.2
        · left; rw [h1]; exact hr
      · exact .inl hr
  refine ⟨hle, ?_⟩
  have hold : ∀ (i : Nat) (o : Obj C.T), (h.set id none ++ [some o'])[i]? = some (some o) → (i ≠ id ∧ i < h.length ∧ h[i]? = some (some o)) ∨ (i = h.length ∧ o = o') := by
    intro i o hi
    rcases Nat.lt_or_ge i h.length with k | k
    · rw [List.getElem?_append_left (by simpa using k), List.getElem?_set] at hi
      split at hi
      · split at hi <;> cases hi
      · rename_i e
        exact .inl ⟨fun x => e x.symm, k, hi⟩
    · rw [List.getElem?_append_right (by simpa using k)] at hi
      rw [List.length_set] at hi
      rcases Nat.eq_or_lt_of_le k with e | e
      · rw [← e] at hi
        simp at hi
        exact .inr ⟨e.symm, hi.symm⟩
      · rw [List.getElem?_eq_none (by simp; omega)] at hi
        cases hi
  have same : ∀ (i : Nat) (o : Obj C.T), i ≠ id → h[i]? = some (some o) → ∀ b, E.β i = some b → H'[b]? = H[b]? := by
    intro i o h1 h2 b h3
    by_cases e : H'[b]? = H[b]?
    · exact e
    · exact ((hX b (hS.bnd i b h3) e).2 i o h1 h2 h3).elim
  refine ⟨?_, ?_, ?_, ?_, ?_, ?_, ?_, ?_, ?_, ?_⟩
  · intro i o hi
    rcases hold i o hi with ⟨h1, h2, h3⟩ | ⟨rfl, rfl⟩
    · refine ((hS.obj i o h3).heap (same i o h1 h3)).mono hle.le ?_
      intro hn
      rw [(hle.old i h2).1]
      exact hn
    · exact ho hle
  · intro i i' o p b hi hi' hb1 hb2
    rcases hold i o hi with ⟨h1, h2, h3⟩ | ⟨rfl, rfl⟩ <;> rcases hold i' p hi' with ⟨h4, h5, h6⟩ | ⟨h4, rfl⟩
    · rw [(hle.old i h2).1] at hb1
      rw [(hle.old i' h5).1] at hb2
      exact hS.inj i i' o p b h3 h6 hb1 hb2
    · rw [(hle.old i h2).1] at hb1
      subst h4
      simp only [Env.put, if_true] at hb2
      exact ((hb b hb2).2.2.2.1 i o h1 h3 hb1).elim
    · rw [(hle.old i' h5).1] at hb2
      simp only [Env.put, if_true] at hb1
      exact ((hb b hb1).2.2.2.1 i' p h4 h6 hb2).elim
    · exact h4.symm
  · intro b cs hf
    obtain ⟨h1, h2⟩ := hS.fr b cs hf
    refine ⟨?_, ?_⟩
    · by_cases e : H'[b]? = H[b]?
      · rw [e]; exact h1
      · exact ((hX b (lt_of_some h1) e).1 cs hf).elim
    · intro i o hi
      rcases hold i o hi with ⟨h3, h4, h5⟩ | ⟨rfl, rfl⟩
      · rw [(hle.old i h4).1]
        exact h2 i o h5
      · simp only [Env.put, if_true]
        exact fun e => (hb b e).2.2.1 cs hf
  · intro i hi
    have hi : h.length + 1 ≤ i := by simpa using hi
    simp only [Env.put]
    rw [if_neg (by omega), if_neg (by omega)]
    exact hS.fresh i (by omega)
  · intro i b hi hb1
    simp only [Env.put] at hb1
    split at hb1
    · exact (hb b hb1).2.1
    · exact hS.low i b hi hb1
  · intro i b hb1
    simp only [Env.put] at hb1
    split at hb1
    · exact (hb b hb1).1
    · exact Nat.lt_of_lt_of_le (hS.bnd i b hb1) hl
  · intro b r hr
    simp only [Env.put] at hr
    split at hr
    · rename_i e
      exact ⟨(hb b e).1, (hb b e).2.2.1⟩
    · exact ⟨Nat.lt_of_lt_of_le (hS.own b r hr).1 hl, (hS.own b r hr).2⟩
  · intro i b hb1
    simp only [Env.put] at hb1 ⊢
    split at hb1
    · rw [if_pos hb1]
      exact ⟨root, rfl⟩
    · split
      · exact ⟨root, rfl⟩
      · exact hS.βω i b hb1
  · have := hS.wl
    simp
    omega
  · exact Nat.le_trans hS.ll hl

theorem SimH.put {lo wlo : Nat} {h : SH C} {H H' : Heap} (hS : SimH E lo wlo h H) (id : Nat) (o' : Obj C.T) (β' : Option Nat) (a : AVal) (root : Nat) (hl : H.length ≤ H'.length)
    (hX : ∀ b, b < H.length → H'[b]? ≠ H[b]? → (∀ cs, ¬ E.Fr b cs) ∧ ∀ (i : Nat) (o : Obj C.T), i ≠ id → h[i]? = some (some o) → E.β i ≠ some b)
    (hb : ∀ b, β' = some b → b < H'.length ∧ lo ≤ b ∧ (∀ cs, ¬ E.Fr b cs) ∧ (∀ (i : Nat) (o : Obj C.T), i ≠ id → h[i]? = some (some o) → E.β i ≠ some b) ∧ ((E.ω b = none ∧ H.length ≤ b) ∨ E.ω b = some root))
    (ho : LeN h.length H.length E (E.put h.length β' a root) → ObjOk (E.put h.length β' a root) H' h.length o') :
    LeN h.length H.length E (E.put h.length β' a root) ∧ SimH (E.put h.length β' a root) lo wlo (h.set id none ++ [some o']) H' := hS.putN id o' β' a root hl hX hb ho

/-- An object turns. -/
theorem SimH.upd {lo wlo : Nat} {h : SH C} {H H' : Heap} (hS : SimH E lo wlo h H) {id : Nat} {o o' : Obj C.T} (hid : h[id]? = some (some o)) (hl : H.length ≤ H'.length)
    (hX : ∀ b, b < H.length → H'[b]? ≠ H[b]? → E.β id = some b) (ho : ObjOk E H' id o') : SimH E lo wlo (h.set id (some o')) H' := by
  have hold : ∀ (i : Nat) (p : Obj C.T), (h.set id (some o'))[i]? = some (some p) → (i ≠ id ∧ h[i]? = some (some p)) ∨ (i = id ∧ p = o') := by
    intro i p hi
    rw [List.getElem?_set] at hi
    split at hi
    · rename_i e
      split at hi
      · simp only [Option.some.injEq] at hi
        exact .inr ⟨e.symm, hi.symm⟩
      · cases hi
    · rename_i e
      exact .inl ⟨fun x => e x.symm, hi⟩
  have live : ∀ (i : Nat) (p : Obj C.T), (h.set id (some o'))[i]? = some (some p) → ∃ q, h[i]? = some (some q) := by
    intro i p hi
    rcases hold i p hi with ⟨_, h2⟩ | ⟨rfl, _⟩
    · exact ⟨_, h2⟩
    · exact ⟨_, hid⟩
  refine ⟨?_, ?_, ?_, ?_, hS.low, ?_, ?_, hS.βω, ?_, Nat.le_trans hS.ll hl⟩
  · intro i p hi
    rcases hold i p hi with ⟨h1, h2⟩ | ⟨rfl, rfl⟩
    · refine (hS.obj i p h2).heap fun b hb => ?_
      by_cases e : H'[b]? = H[b]?
      · exact e
      · exact (h1 (hS.inj i id p o b h2 hid hb (hX b (hS.bnd i b hb) e))).elim
    · exact ho
  · intro i i' p q b hi hi' h1 h2
    obtain ⟨p', hp⟩ := live i p hi
    obtain ⟨q', hq⟩ := live i' q hi'
    exact hS.inj i i' p' q' b hp hq h1 h2
  · intro b cs hf
    obtain ⟨h1, h2⟩ := hS.fr b cs hf
    refine ⟨?_, fun i p hi => ?_⟩
    · by_cases e : H'[b]? = H[b]?
      · rw [e]; exact h1
      · exact (h2 id o hid (hX b (lt_of_some h1) e)).elim
    · obtain ⟨q, hq⟩ := live i p hi
      exact h2 i q hq
  · intro i hi
    exact hS.fresh i (by simpa using hi)
  · intro i b hb
    exact Nat.lt_of_lt_of_le (hS.bnd i b hb) hl
  · intro b r hr
    exact ⟨Nat.lt_of_lt_of_le (hS.own b r hr).1 hl, (hS.own b r hr).2⟩
  · have := hS.wl
    simpa using this

/-- A new object in a new block. -/
theorem SimH.push {lo wlo : Nat} (N : Nat) {h : SH C} {H H' : Heap} (hS : SimH E lo wlo h H) (o' : Obj C.T) (a : AVal) (p : Nat) (hp : p < H'.length) (hlo : lo ≤ p) (hN : N ≤ p) (hn : H[p]? = none ∨ (H[p]? = some none ∧ E.ω p = none)) (hl : H.length ≤ H'.length)
    (hX : ∀ b, b < H.length → b ≠ p → H'[b]? = H[b]?) (ho : LeN h.length N E (E.put h.length (some p) a h.length) → ObjOk (E.put h.length (some p) a h.length) H' h.length o') :
    LeN h.length N E (E.put h.length (some p) a h.length) ∧ SimH (E.put h.length (some p) a h.length) lo wlo (h ++ [some o']) H' := by
  have nofr : ∀ cs, ¬ E.Fr p cs := by
    intro cs hf
    have := (hS.fr p cs hf).1
    rcases hn with h1 | ⟨h1, _⟩ <;> rw [h1] at this <;> cases this
  have noβ : ∀ i, E.β i ≠ some p := by
    intro i hi
    rcases hn with h1 | ⟨_, h2⟩
    · have := hS.bnd i p hi
      rw [List.getElem?_eq_none_iff] at h1
      omega
    · obtain ⟨r, hr⟩ := hS.βω i p hi
      rw [h2] at hr
      cases hr
  have noω : E.ω p = none := by
    rcases hn with h1 | ⟨_, h2⟩
    · cases hw : E.ω p with
      | none => rfl
      | some r =>
        have := (hS.own p r hw).1
        rw [List.getElem?_eq_none_iff] at h1
        omega
    · exact h2
  have := hS.putN (N := N) h.length o' (some p) a h.length hl (fun b hb hne => by
    by_cases e : b = p
    · subst e
      exact ⟨nofr, fun i o _ _ => noβ i⟩
    · exact (hne (hX b hb e)).elim) (fun b hb => by
    simp only [Option.some.injEq] at hb
    subst hb
    exact ⟨hp, hlo, nofr, fun i o _ _ => noβ i, .inl ⟨noω, hN⟩⟩) ho
  have e : h.set h.length none = h := by
    apply List.ext_getElem?
    intro j
    rw [List.getElem?_set]
    split
    · rename_i hj
      subst hj
      simp
    · rfl
  rw [e] at this
  exact this

end Go.Sy

/- What makes blocks and turns them, on symbolic values, is sound. Generic: over any program. -/
namespace Go.Sy
open Go.Am
set_option linter.unusedVariables false
variable {C : Codec} {E : Env} {P : Program}

/-- An operation's outcome, idealised and symbolic side by side. -/
def Out (E : Env) (lo wlo : Nat) (h : SH C) (H : Heap) (r : AVal → Heap → Prop) (K : SV C.T → SH C → Tree) : Prop :=
  ∃ v H' sv h' E', r v H' ∧ LeN h.length H.length E E' ∧ h.length ≤ h'.length ∧ SimH E' lo wlo h' H' ∧ H.length ≤ H'.length ∧ Er E' sv v ∧ (K sv h').holds

theorem Out.mono {lo wlo : Nat} {h : SH C} {H : Heap} {r r' : AVal → Heap → Prop} {K : SV C.T → SH C → Tree} (hr : ∀ v H', r v H' → r' v H') (h1 : Out E lo wlo h H r K) : Out E lo wlo h H r' K := by
  obtain ⟨v, H', sv, h', E', h1, h2⟩ := h1
  exact ⟨v, H', sv, h', E', hr _ _ h1, h2⟩

/-- One that leaves all as it is. -/
theorem Out.of_ret {lo wlo : Nat} {h : SH C} {H : Heap} (hS : SimH E lo wlo h H) {x : Option AVal} {K : SV C.T → SH C → Tree} (hr : Ret E x fun v => K v h) : Out E lo wlo h H (fun v H' => x = some v ∧ H' = H) K := by
  obtain ⟨v, sv, h1, h2, h3⟩ := hr
  exact ⟨v, H, sv, h, E, ⟨h1, rfl⟩, LeN.refl _ _, Nat.le_refl _, hS, Nat.le_refl _, h2, h3⟩

/-! ### Rows -/
def RowsEr (E : Env) (z : Nat) (rows : List (List (SV C.T))) (rA : List (List AVal)) : Prop :=
  rows.length = rA.length ∧ ∀ (i : Nat) (r : List (SV C.T)) (ra : List AVal), rows[i]? = some r → rA[i]? = some ra → Ers E r ra ∧ ra.length = z

theorem RowsEr.tail {z : Nat} {r : List (SV C.T)} {rows : List (List (SV C.T))} {ra : List AVal} {rA : List (List AVal)} (h : RowsEr E z (r :: rows) (ra :: rA)) : Ers E r ra ∧ ra.length = z ∧ RowsEr E z rows rA := by
  have h0 := h.2 0 r ra rfl rfl
  exact ⟨h0.1, h0.2, by simpa using h.1, fun i p q h1 h2 => h.2 (i + 1) p q (by simpa using h1) (by simpa using h2)⟩

theorem RowsEr.flatten {z : Nat} : ∀ {rows : List (List (SV C.T))} {rA : List (List AVal)}, RowsEr E z rows rA → Ers E rows.flatten rA.flatten
  | [], [], _ => Ers.nil
  | [], _ :: _, h => by simp [RowsEr] at h
  | _ :: _, [], h => by simp [RowsEr] at h
  | r :: rows, ra :: rA, h => by
    obtain ⟨h1, _, h2⟩ := h.tail
    simp only [List.flatten_cons]
    exact h1.append h2.flatten

theorem flat_len {z : Nat} : ∀ {rA : List (List AVal)}, (∀ (i : Nat) (ra : List AVal), rA[i]? = some ra → ra.length = z) → rA.flatten.length = rA.length * z
  | [], _ => by simp
  | r :: rA, h => by
    have h0 := h 0 r rfl
    have := flat_len (rA := rA) fun i ra hi => h (i + 1) ra (by simpa using hi)
    simp only [List.flatten_cons, List.length_append, List.length_cons, this, h0, Nat.succ_mul]
    omega

theorem flat_get {z : Nat} : ∀ {rA : List (List AVal)} {i j : Nat} {ra : List AVal}, (∀ (i : Nat) (ra : List AVal), rA[i]? = some ra → ra.length = z) → rA[i]? = some ra → j < z → rA.flatten[i * z + j]? = ra[j]?
  | [], i, j, ra, _, h, _ => by simp at h
  | r :: rA, 0, j, ra, hl, h, hj => by
    simp only [List.getElem?_cons_zero, Option.some.injEq] at h
    subst h
    simp only [List.flatten_cons, Nat.zero_mul, Nat.zero_add]
    rw [List.getElem?_append_left (by rw [hl 0 r rfl]; exact hj)]
  | r :: rA, i + 1, j, ra, hl, h, hj => by
    have h0 := hl 0 r rfl
    simp only [List.flatten_cons]
    rw [List.getElem?_append_right (by rw [h0, Nat.succ_mul]; omega)]
    rw [show (i + 1) * z + j - r.length = i * z + j by rw [h0, Nat.succ_mul]; omega]
    exact flat_get (fun k ra hk => hl (k + 1) ra (by simpa using hk)) (by simpa using h) hj

theorem RowsEr.lens {z : Nat} {rows : List (List (SV C.T))} {rA : List (List AVal)} (h : RowsEr E z rows rA) : ∀ (i : Nat) (ra : List AVal), rA[i]? = some ra → ra.length = z := by
  intro i ra hi
  have hl := lt_of_some hi
  exact (h.2 i _ ra (List.getElem?_eq_getElem (by rw [h.1]; exact hl)) hi).2

theorem chunk_get {z : Nat} : ∀ {n i : Nat} {cs : List AVal}, i < n → (chunk z n cs)[i]? = some ((cs.drop (i * z)).take z)
  | 0, i, cs, h => by omega
  | n + 1, 0, cs, h => by simp [chunk]
  | n + 1, i + 1, cs, h => by
    simp only [chunk, List.getElem?_cons_succ]
    rw [chunk_get (by omega), List.drop_drop]
    rw [show z + i * z = (i + 1) * z by rw [Nat.succ_mul]; omega]

theorem chunk_len {z : Nat} : ∀ (n : Nat) (cs : List AVal), (chunk z n cs).length = n
  | 0, _ => rfl
  | n + 1, cs => by simp [chunk, chunk_len n]

theorem chunkS_ok {z : Nat} : ∀ {n : Nat} {cs : List (SV C.T)} {as : List AVal}, Ers E cs as → n * z ≤ as.length → RowsEr E z (chunkS z n cs) (chunk z n as)
  | 0, cs, as, _, _ => ⟨rfl, fun i r ra h => by simp [chunkS] at h⟩
  | n + 1, cs, as, h, hl => by
    have hz : z + n * z ≤ as.length := by rw [Nat.succ_mul] at hl; omega
    have ih := chunkS_ok (z := z) (n := n) (h.drop z) (by simp; omega)
    refine ⟨by simp only [chunkS, chunk, List.length_cons, ih.1], fun i r ra h1 h2 => ?_⟩
    cases i with
    | zero =>
      simp only [chunkS, chunk, List.getElem?_cons_zero, Option.some.injEq] at h1 h2
      subst h1 h2
      exact ⟨h.take z, by simp; omega⟩
    | succ i =>
      simp only [chunkS, chunk, List.getElem?_cons_succ] at h1 h2
      exact ih.2 i r ra h1 h2

theorem decAll_ok (hC : CodecOk C) {z n : Nat} : ∀ {rows : List (List (SV C.T))} {rA : List (List AVal)} {xs : List (C.T n)}, RowsEr E z rows rA → decAll n rows = some xs → RowsEr E z (xs.map (C.enc n)) rA
  | [], rA, xs, h, hd => by
    simp only [decAll, Option.some.injEq] at hd
    subst hd
    exact h
  | r :: rows, [], xs, h, hd => by simp [RowsEr] at h
  | r :: rows, ra :: rA, xs, h, hd => by
    simp only [decAll] at hd
    split at hd
    · cases hd
    · rename_i x hx
      split at hd
      · cases hd
      · rename_i xs' hxs
        simp only [Option.some.injEq] at hd
        subst hd
        obtain ⟨h1, h2, h3⟩ := h.tail
        have ih := decAll_ok hC h3 hxs
        refine ⟨by simp [ih.1], fun i p q h4 h5 => ?_⟩
        cases i with
        | zero =>
          simp only [List.map_cons, List.getElem?_cons_zero, Option.some.injEq] at h4 h5
          subst h4 h5
          exact ⟨hC.dec n r x hx E ra h1, h2⟩
        | succ i =>
          simp only [List.map_cons, List.getElem?_cons_succ] at h4 h5
          exact ih.2 i p q h4 h5

theorem RowsAt.of_flat (hC : CodecOk C) {n : Nat} {ys : List (C.T n)} {rA : List (List AVal)} {as : List AVal} {off : Nat} (h : RowsEr E (C.sz n) (ys.map (C.enc n)) rA) (hf : ∀ k, k < rA.flatten.length → as[off + k]? = rA.flatten[k]?) : RowsAt E n ys as off := by
  intro i y j x a h1 h2 h3
  have hl := lt_of_some h1
  have hil : i < rA.length := by rw [← h.1]; simpa using hl
  have hra : rA[i]? = some rA[i] := List.getElem?_eq_getElem hil
  have hr := h.2 i (C.enc n y) rA[i] (by simp [h1]) hra
  have hj : j < C.sz n := by have := lt_of_some h2; rw [hC.len] at this; exact this
  have hk : i * C.sz n + j < rA.flatten.length := by
    rw [flat_len h.lens]
    have := mul_le_of (z := C.sz n) hil
    omega
  rw [Nat.add_assoc, hf _ hk, flat_get h.lens hra hj] at h3
  exact hr.1.2 j x a h2 h3

theorem RowsAt.append (hC : CodecOk C) {n : Nat} {l ys : List (C.T n)} {rA : List (List AVal)} {as as' : List AVal} {off off' : Nat} (h : RowsAt E n l as off) (hr : RowsEr E (C.sz n) (ys.map (C.enc n)) rA)
    (h1 : ∀ k, k < l.length * C.sz n → as'[off' + k]? = as[off + k]?) (h2 : ∀ k, k < rA.flatten.length → as'[off' + l.length * C.sz n + k]? = rA.flatten[k]?) : RowsAt E n (l ++ ys) as' off' := by
  intro i y j x a g1 g2 g3
  have hj : j < C.sz n := by have := lt_of_some g2; rw [hC.len] at this; exact this
  rcases Nat.lt_or_ge i l.length with hi | hi
  · rw [List.getElem?_append_left hi] at g1
    have := mul_le_of (z := C.sz n) hi
    rw [Nat.add_assoc, h1 _ (by omega), ← Nat.add_assoc] at g3
    exact h i y j x a g1 g2 g3
  · rw [List.getElem?_append_right hi] at g1
    refine RowsAt.of_flat hC hr h2 (i - l.length) y j x a g1 g2 ?_
    rw [show off' + l.length * C.sz n + (i - l.length) * C.sz n + j = off' + i * C.sz n + j by rw [Nat.add_assoc off', ← Nat.add_mul, Nat.add_sub_cancel' hi]]
    exact g3

theorem RowsEr.map_enc (hC : CodecOk C) {n : Nat} {l : List (C.T n)} {rA : List (List AVal)} (hl : rA.length = l.length) (h : ∀ (i : Nat) (y : C.T n) (ra : List AVal), l[i]? = some y → rA[i]? = some ra → Ers E (C.enc n y) ra) : RowsEr E (C.sz n) (l.map (C.enc n)) rA := by
  refine ⟨by simp [hl], fun i r ra h1 h2 => ?_⟩
  rw [List.getElem?_map, Option.map_eq_some_iff] at h1
  obtain ⟨y, h3, rfl⟩ := h1
  have := h i y ra h3 h2
  exact ⟨this, by rw [← this.1, hC.len]⟩

/-- What is put behind a slice. -/
def Src.Ok (E : Env) (z : Nat) (rA : List (List AVal)) : Src C → Prop
  | .lit rows => RowsEr E z rows rA
  | .typ n l => C.sz n = z ∧ RowsEr E z (l.map (C.enc n)) rA
  | .no => True

theorem srcS_ok (hC : CodecOk C) {lo wlo : Nat} {h : SH C} {H : Heap} (hS : SimH E lo wlo h H) {z : Nat} {x : SV C.T} {a : AVal} (hx : Er E x a) {src : Src C} (e : srcS h z x = src) (hn : src ≠ .no) : ∃ rA, rowsA H z a = some rA ∧ src.Ok E z rA := by
  unfold srcS at e
  split at e
  · cases hx
    subst e
    exact ⟨[], rfl, rfl, fun i r ra h => by simp at h⟩
  · cases hx
    split at e
    · rename_i s rows ex hc
      subst e
      refine ⟨rows, by simp [rowsA, hc.1], by simp, fun i r ra h1 h2 => ?_⟩
      rw [List.getElem?_map, h2] at h1
      simp only [Option.map_some, Option.some.injEq] at h1
      subst h1
      refine ⟨Ers.mapA ra, ?_⟩
      have := List.all_eq_true.1 hc.2 ra (List.mem_of_getElem? h2)
      simpa using this
    · exact (hn e.symm).elim
  · cases hx
    split at e
    · rename_i s hc
      subst e
      refine ⟨s.map fun b => [.int .u8 b.toNat], by simp [rowsA, hc], by simp, fun i r ra h1 h2 => ?_⟩
      rw [List.getElem?_map, Option.map_eq_some_iff] at h1 h2
      obtain ⟨b, h3, rfl⟩ := h1
      obtain ⟨b', h4, rfl⟩ := h2
      rw [h3] at h4
      simp only [Option.some.injEq] at h4
      subst h4
      exact ⟨Ers.nil.cons (.a _), by simp [hc]⟩
    · exact (hn e.symm).elim
  · split at e
    · rename_i s id off len cap ex hs
      split at e
      · rename_i cs ho
        split at e
        · rename_i hle
          subst e
          cases hx with
          | sl hb =>
            obtain ⟨b, as, g1, _, g2, g3⟩ := hS.obj id _ (hget_some ho)
            rw [hb] at g1
            simp only [Option.some.injEq] at g1
            subst g1
            have hl := g3.1
            refine ⟨chunk z len (as.drop off), ?_, chunkS_ok (g3.drop off) (by simp; omega)⟩
            simp only [rowsA, hs, if_true, g2]
            rw [if_pos (by omega)]
        · exact (hn e.symm).elim
      · exact (hn e.symm).elim
    · exact (hn e.symm).elim
  · split at e
    · rename_i n l hz
      subst e
      cases hx with
      | tlN => exact ⟨[], rfl, hz, rfl, fun i r ra h => by simp at h⟩
      | tlL h1 h2 h3 h4 =>
        rename_i z' rows ex
        refine ⟨rows, by simp [rowsA, h1, hz], hz, ?_⟩
        rw [← hz]
        exact RowsEr.map_enc hC h2 fun i y ra g1 g2 => ⟨by rw [hC.len, h3 i ra g2], fun j x a g3 g4 => h4 i y ra j x a g1 g2 g3 g4⟩
      | tlS h1 h2 hf h3 h4 h5 =>
        rename_i z' b off len cap as ex
        have g2 := (hS.fr _ _ hf).1
        refine ⟨chunk z len (as.drop off), ?_, hz, ?_⟩
        · simp only [rowsA, h1, hz, if_true, g2]
          rw [if_pos (by rw [h2, ← hz]; exact h3)]
        · rw [← hz]
          refine RowsEr.map_enc hC (by rw [chunk_len, h2]) fun i y ra g1 g3 => ?_
          have hi : i < l.length := lt_of_some g1
          rw [chunk_get (by omega), Option.some.injEq] at g3
          subst g3
          rw [List.drop_drop]
          have := mul_le_of (z := C.sz n) hi
          exact Ers.of_at hC h5 g1 (by omega)
    · exact (hn e.symm).elim
  · rename_i id
    split at e
    · rename_i n l full root ho
      split at e
      · rename_i hz
        subst e
        cases hx with
        | R hg hs =>
          rcases hS.obj id _ (hget_some ho) with ⟨rfl, _, a', g1, g2⟩ | ⟨b, off, cap, ex, as, g1, g2, _, g3, g4, g5, g6, g7, g8⟩
          · rw [hg] at g1
            simp only [Option.some.injEq] at g1
            subst g1
            refine ⟨[], ?_, hz, rfl, fun i r ra h => by simp at h⟩
            rcases g2 with rfl | rfl
            · rfl
            · simp [rowsA, hz]
          · rw [hg] at g1
            simp only [Option.some.injEq] at g1
            subst g1
            have hm := Nat.mul_le_mul_right (C.sz n) g4
            refine ⟨chunk z l.length (as.drop off), ?_, hz, ?_⟩
            · simp only [rowsA, hz, if_true, g3]
              rw [if_pos (by rw [← hz]; omega)]
            · rw [← hz]
              refine RowsEr.map_enc hC (chunk_len _ _) fun i y ra q1 q2 => ?_
              have hi : i < l.length := lt_of_some q1
              rw [chunk_get hi, Option.some.injEq] at q2
              subst q2
              rw [List.drop_drop]
              have := mul_le_of (z := C.sz n) hi
              exact Ers.of_at hC g8 q1 (by omega)
      · exact (hn e.symm).elim
    · exact (hn e.symm).elim
  · exact (hn e.symm).elim

end Go.Sy

/- What makes blocks and turns them, on symbolic values, is sound: new blocks, stores. Generic: over any program. -/
namespace Go.Sy
open Go.Am
set_option linter.unusedVariables false
variable {C : Codec} {E : Env} {P : Program}

theorem bndN_ok {d : Nat} {x : Option (SV C.T)} {a : Option AVal} {r y : Nat} (hx : ∀ v, x = some v → ∃ w, a = some w ∧ Er E v w) (hn : x = none → a = none) (h : bndN d x = some r) (hr : r ≤ y ∨ x = none) : boundA d y a = some r := by
  unfold bndN at h
  split at h
  · simp only [Option.some.injEq] at h
    subst h
    rw [hn rfl]
    rfl
  · rename_i k m
    simp only [Option.some.injEq] at h
    subst h
    obtain ⟨w, rfl, hw⟩ := hx _ rfl
    cases hw
    rcases hr with hr | hr
    · simp [boundA, idxA, hr]
    · cases hr
  · cases h

theorem boundA_of {a : AVal} {r : Nat} (h : boundA 0 r (some a) = some r) : idxA a = some r := by
  unfold boundA at h
  simp only at h
  split at h
  · split at h
    · rename_i e _; rw [e, ← h]
    · cases h
  · cases h

theorem replicate_flat_get {α : Type} {zc : List α} {z : Nat} (hz : zc.length = z) : ∀ {n i j : Nat}, i < n → j < z → ((List.replicate n zc).flatten)[i * z + j]? = zc[j]?
  | 0, i, j, h, _ => by omega
  | n + 1, 0, j, _, hj => by
    simp only [List.replicate_succ, List.flatten_cons, Nat.zero_mul, Nat.zero_add]
    rw [List.getElem?_append_left (by omega)]
  | n + 1, i + 1, j, h, hj => by
    simp only [List.replicate_succ, List.flatten_cons]
    rw [List.getElem?_append_right (by rw [hz, Nat.succ_mul]; omega), show (i + 1) * z + j - zc.length = i * z + j by rw [hz, Nat.succ_mul]; omega]
    exact replicate_flat_get hz (by omega) hj

theorem replicate_flat_len {α : Type} {zc : List α} {z : Nat} (hz : zc.length = z) (n : Nat) : ((List.replicate n zc).flatten).length = n * z := by
  induction n with
  | zero => simp
  | succ n ih => simp only [List.replicate_succ, List.flatten_cons, List.length_append, ih, hz, Nat.succ_mul]; omega

theorem newX_ok (hC : CodecOk C) {S : AStat} {ρ : List AVal} {ev : Operand → SV C.T} (hev : ∀ x, Er E (ev x) (evalA S ρ x)) {op : Op} {K : (Nat → Obj C.T) → (Nat → SV C.T) → Tree} (h : (newX S ev op K).holds) :
    ∃ blk mkA o mk, newA S ρ op = some (blk, mkA) ∧ (K o mk).holds ∧ ∀ (E' : Env) (H' : Heap) (id b : Nat), E.le E' → E'.β id = some b → E'.γ id = some (mkA b) → E'.ω b = some id → H'[b]? = some (some blk) → ObjOk E' H' id (o id) ∧ Er E' (mk id) (mkA b) := by
  unfold newX at h
  split at h
  · rename_i t
    split at h
    · rename_i z hz
      split at h
      · rename_i hall
        refine ⟨.cells z.cells, fun id => .ptr id 0, _, _, ?_, h, ?_⟩
        · simp only [newA, allocA, hz, hall, if_true]
        · intro E' H' id b _ hb _ hw hH
          exact ⟨⟨b, z.cells, hb, hw, hH, Ers.mapA _⟩, .ptr hb⟩
      · exact (stuck_no h).elim
    · exact (stuck_no h).elim
  · rename_i t x
    split at h
    · rename_i cs hcs
      split at h
      · rename_i hall
        have hE := cellsS_ok (hev x) hcs
        refine ⟨.cells (evalA S ρ x).cells, fun id => .ptr id 0, _, _, ?_, h, ?_⟩
        · simp only [newA, boxA, oneS_all hE hall, if_true]
        · intro E' H' id b hle hb _ hw hH
          exact ⟨⟨b, _, hb, hw, hH, hE.mono hle⟩, .ptr hb⟩
      · exact (stuck_no h).elim
    · exact (stuck_no h).elim
  · rename_i t len parts
    split at h
    · rename_i e hu
      split at h
      · exact (stuck_no h).elim
      · rename_i z hz
        split at h
        · rename_i hc
          split at h
          · rename_i cs hcs
            have hp : PartsOk E (parts.toList.map fun p => (p.1, ev p.2)) (parts.toList.map fun p => (p.1, evalA S ρ p.2)) := by
              generalize parts.toList = l
              induction l with
              | nil => exact .nil
              | cons p l ih => exact .cons (hev p.2) ih
            obtain ⟨ra, h1, h2⟩ := fillS_ok hp (Ers.mapA _) hcs
            refine ⟨.cells ra, fun id => .sl (szOf S.P e) id 0 len len false, _, _, ?_, h, ?_⟩
            · simp only [newA, buildSliceA, hu, hz, hc, and_self, if_true, h1, Option.map_some, ne_eq, not_false_eq_true]
            · intro E' H' id b hle hb _ hw hH
              exact ⟨⟨b, ra, hb, hw, hH, h2.mono hle⟩, .sl hb⟩
          · exact (stuck_no h).elim
        · exact (stuck_no h).elim
    · exact (stuck_no h).elim
  · rename_i t l c
    split at h
    · rename_i e hu
      split at h
      · exact (stuck_no h).elim
      · rename_i z hz
        split at h
        · rename_i hc
          split at h
          · rename_i ln cn hl hcn
            split at h
            · rename_i hcc
              have el := boundA_of (bndN_ok (C := C) (E := E) (y := ln) (a := some (evalA S ρ l)) (fun v e => ⟨_, rfl, by cases e; exact hev l⟩) (fun e => by cases e) hl (.inl (Nat.le_refl _)))
              have ec := boundA_of (bndN_ok (C := C) (E := E) (y := cn) (a := some (evalA S ρ c)) (fun v e => ⟨_, rfl, by cases e; exact hev c⟩) (fun e => by cases e) hcn (.inl (Nat.le_refl _)))
              refine ⟨.cells (List.replicate cn z.cells).flatten, fun id => .sl (szOf S.P e) id 0 ln cn true, _, _, ?_, h, ?_⟩
              · simp only [newA, makeSliceA, hu, el, ec, hz]
                rw [if_pos ⟨hcc.1, hcc.2.1, hcc.2.2, hc.1, hc.2.1, hc.2.2⟩]
              · intro E' H' id b hle hb _ hw hH
                exact ⟨⟨b, _, hb, hw, hH, Ers.mapA _⟩, .sl hb⟩
            · exact (stuck_no h).elim
          · split at h
            · rename_i kl ln kc cn n hl hcn hn
              split at h
              · rename_i x hx
                split at h
                · rename_i hsz
                  obtain ⟨⟨h0, h1, h2, h3⟩, hk⟩ := h
                  have el := intOf_ok (hev l) hl
                  have ec := intOf_ok (hev c) hcn
                  subst h1
                  refine ⟨.cells (List.replicate ln.toNat z.cells).flatten, fun id => .sl (szOf S.P e) id 0 ln.toNat ln.toNat true, _, _, ?_, hk, ?_⟩
                  · simp only [newA, makeSliceA, hu, el, ec, idxA, h0, if_true, hz]
                    rw [if_pos ⟨Nat.le_refl _, by
                      have : ((ln.toNat * S.P.bytesOf e : Nat) : Int) ≤ 281474976710656 := by rw [Int.natCast_mul, Int.toNat_of_nonneg h0]; exact h2
                      omega, by omega, hc.1, hc.2.1, hc.2.2⟩]
                  · intro E' H' id b hle hb hg hw hH
                    have hE : Ers (C := C) E' (C.enc n x) z.cells := hC.dec n _ x hx E' _ (Ers.mapA _)
                    refine ⟨.inr ⟨b, 0, ln.toNat, true, _, ?_, hb, hw, hH, ?_, ?_, .inl rfl, fun _ => .inl rfl, ?_⟩, .R hg rfl⟩
                    · rw [hg, List.length_replicate, hsz]
                    · simp
                    · rw [replicate_flat_len hc.1, hsz]; omega
                    · intro i y j xx a g1 g2 g3
                      have hi := lt_of_some g1
                      simp only [List.length_replicate] at hi
                      rw [List.getElem?_replicate, if_pos hi] at g1
                      simp only [Option.some.injEq] at g1
                      subst g1
                      have hj : j < C.sz n := by have := lt_of_some g2; rw [hC.len] at this; exact this
                      rw [Nat.zero_add, hsz, replicate_flat_get hc.1 hi (by omega)] at g3
                      exact hE.2 j xx a g2 g3
                · exact (stuck_no h).elim
              · exact (stuck_no h).elim
            · exact (stuck_no h).elim
        · exact (stuck_no h).elim
    · exact (stuck_no h).elim
  · refine ⟨.mp [], fun id => .mapr id, _, _, rfl, h, ?_⟩
    intro E' H' id b hle hb _ hw hH
    exact ⟨⟨b, [], hb, hw, hH, .nil⟩, .mapr hb⟩
  · exact (stuck_no h).elim

theorem storeX_ok (hC : CodecOk C) {lo wlo : Nat} {t : TypeId} {h : SH C} {H : Heap} (hS : SimH E lo wlo h H) {x v : SV C.T} {a b : AVal} {K : SV C.T → SH C → Tree} (hx : Er E x a) (hv : Er E v b) (hh : (storeX P wlo t h x v K).holds) :
    Out E lo wlo h H (fun r H' => r = undefA ∧ storeA P lo t H a b = some H') K := by
  unfold storeX at hh
  split at hh
  · exact (stuck_no hh).elim
  · rename_i vs hvs
    have hE := cellsS_ok hv hvs
    have hEl := hE.1
    split at hh
    · rename_i hc
      have hone := oneS_all hE hc.2.2
      split at hh
      · rename_i id off
        split at hh
        · rename_i cs ho
          split at hh
          · rename_i hw
            cases hx with
            | ptr hb =>
              rename_i bb
              obtain ⟨b', as, g1, gw, g2, g3⟩ := hS.obj id _ (hget_some ho)
              rw [hb] at g1
              simp only [Option.some.injEq] at g1
              subst g1
              have hl := g3.1
              have hlo := hS.low id bb hw.1 hb
              have hst : storeA P lo t H (.ptr bb off) b = some (H.set bb (some (.cells (splice as off b.cells)))) := by
                simp only [storeA, g2]
                rw [if_pos ⟨hlo, by omega, hc.2.1, hone, by omega⟩]
              refine ⟨undefA, _, .a undefA, _, E, ⟨rfl, hst⟩, LeN.refl _ _, by simp, hS.upd (hget_some ho) (by simp) ?_ ?_, by simp, .a _, hh⟩
              · intro q hq hne
                rw [List.getElem?_set] at hne
                split at hne
                · rename_i e; rw [← e]; exact hb
                · exact (hne rfl).elim
              · refine ⟨bb, _, hb, gw, by rw [List.getElem?_set, if_pos rfl, if_pos (lt_of_some g2)], ?_⟩
                unfold splice
                rw [← hEl]
                exact ((g3.take off).append hE).append (g3.drop (off + vs.length))
          · exact (stuck_no hh).elim
        · exact (stuck_no hh).elim
      · rename_i id i off
        split at hh
        · rename_i n l full root ho
          split at hh
          · rename_i hw
            split at hh
            · rename_i y hy
              obtain ⟨⟨h0, h1⟩, hk⟩ := hh
              have hat := Codec.at_get (C := C) h0 h1
              cases hx with
              | ep hg =>
                rename_i z bb o len cap ex
                rcases hS.obj id _ (hget_some ho) with ⟨rfl, _⟩ | ⟨b', off', cap', ex', as, g1, g2, gw, g3, g4, g5, g6, g7, g8⟩
                · simp at h1; omega
                · rw [hg] at g1
                  simp only [Option.some.injEq, AVal.sl.injEq] at g1
                  obtain ⟨rfl, rfl, rfl, rfl, rfl, rfl⟩ := g1
                  have hi : i.toNat < l.length := by omega
                  have hm := mul_le_of (z := C.sz n) hi
                  have hcap := Nat.mul_le_mul_right (C.sz n) g4
                  have hlo := hS.low id bb hw.1 g2
                  have hrow := Ers.of_at hC g8 hat (by omega)
                  have hnew := hC.dec n _ y hy E _ (((hrow.take off).append hE).append (hrow.drop (off + vs.length)))
                  have hst : storeA P lo t H (.ptr bb (o + i.toNat * C.sz n + off)) b = some (H.set bb (some (.cells (splice as (o + i.toNat * C.sz n + off) b.cells)))) := by
                    simp only [storeA, g3]
                    rw [if_pos ⟨hlo, by omega, hc.2.1, hone, by omega⟩]
                  refine ⟨undefA, _, .a undefA, _, E, ⟨rfl, hst⟩, LeN.refl _ _, by simp, hS.upd (hget_some ho) (by simp) ?_ ?_, by simp, .a _, hk⟩
                  · intro q hq hne
                    rw [List.getElem?_set] at hne
                    split at hne
                    · rename_i e; rw [← e]; exact g2
                    · exact (hne rfl).elim
                  · have hslen : (splice as (o + i.toNat * C.sz n + off) b.cells).length = as.length := by
                      unfold splice
                      simp
                      omega
                    refine .inr ⟨bb, o, cap, ex, _, by rw [List.length_set]; exact hg, g2, gw, by rw [List.getElem?_set, if_pos rfl, if_pos (lt_of_some g3)], by simpa using g4, by rw [hslen]; exact g5, by rw [hslen]; exact g6, by simpa using g7, ?_⟩
                    intro i' y' j xx aa q1 q2 q3
                    have hj : j < C.sz n := by have := lt_of_some q2; rw [hC.len] at this; exact this
                    -- the cells of the block behind the store
                    have get : ∀ k, (splice as (o + i.toNat * C.sz n + off) b.cells)[k]? = if k < o + i.toNat * C.sz n + off then as[k]? else if k < o + i.toNat * C.sz n + off + b.cells.length then b.cells[k - (o + i.toNat * C.sz n + off)]? else as[k]? := by
                      intro k
                      unfold splice
                      split
                      · rw [List.append_assoc, List.getElem?_append_left (by simp; omega), List.getElem?_take, if_pos (by assumption)]
                      · rename_i hk1
                        split
                        · rw [List.append_assoc, List.getElem?_append_right (by simp; omega), List.getElem?_append_left (by simp; omega)]
                          congr 1
                          simp
                          omega
                        · rw [List.getElem?_append_right (by simp; omega), List.getElem?_drop]
                          congr 1
                          simp
                          omega
                    rw [get] at q3
                    by_cases hii : i' = i.toNat
                    · subst hii
                      rw [List.getElem?_set, if_pos rfl, if_pos hi] at q1
                      simp only [Option.some.injEq] at q1
                      subst q1
                      refine hnew.2 j xx aa q2 ?_
                      have rowget : ∀ k, k < C.sz n → ((as.drop (o + i.toNat * C.sz n)).take (C.sz n))[k]? = as[o + i.toNat * C.sz n + k]? := by
                        intro k hk
                        rw [List.getElem?_take, if_pos hk, List.getElem?_drop]
                      have rowlen : ((as.drop (o + i.toNat * C.sz n)).take (C.sz n)).length = C.sz n := by simp; omega
                      rw [← hEl] at q3
                      split at q3
                      · rw [List.append_assoc, List.getElem?_append_left (by rw [List.length_take, rowlen]; omega), List.getElem?_take, if_pos (by omega), rowget j hj]
                        exact q3
                      · split at q3
                        · rw [List.append_assoc, List.getElem?_append_right (by rw [List.length_take, rowlen]; omega), List.getElem?_append_left (by rw [List.length_take, rowlen]; omega), List.length_take, rowlen]
                          rw [show j - min off (C.sz n) = o + i.toNat * C.sz n + j - (o + i.toNat * C.sz n + off) by omega]
                          exact q3
                        · rw [List.getElem?_append_right (by rw [List.length_append, List.length_take, rowlen]; omega), List.length_append, List.length_take, rowlen, List.getElem?_drop,
                            show off + vs.length + (j - (min off (C.sz n) + b.cells.length)) = j by omega, rowget j hj]
                          exact q3
                    · rw [List.getElem?_set, if_neg (fun e => hii e.symm)] at q1
                      have hi' := lt_of_some q1
                      have hm' := mul_le_of (z := C.sz n) hi'
                      have apart : o + i' * C.sz n + j < o + i.toNat * C.sz n + off ∨ o + i.toNat * C.sz n + off + b.cells.length ≤ o + i' * C.sz n + j := by
                        rcases Nat.lt_or_gt_of_ne hii with hlt | hgt
                        · have := mul_le_of (z := C.sz n) hlt
                          left
                          omega
                        · have := mul_le_of (z := C.sz n) hgt
                          right
                          omega
                      refine g8 i' y' j xx aa q1 q2 ?_
                      rcases apart with h5 | h5
                      · rw [if_pos h5] at q3
                        exact q3
                      · rw [if_neg (by omega), if_neg (by omega)] at q3
                        exact q3
            · exact (stuck_no hh).elim
          · exact (stuck_no hh).elim
        · exact (stuck_no hh).elim
      · exact (stuck_no hh).elim
    · exact (stuck_no hh).elim

end Go.Sy

/- Appends to symbolic slices are sound. Generic: over any program. -/
namespace Go.Sy
open Go.Am
set_option linter.unusedVariables false
set_option linter.unusedSimpArgs false
variable {C : Codec} {E : Env} {P : Program}

theorem LeN.er {n N : Nat} {E E' : Env} (h : LeN n N E E') {x : SV C.T} {a : AVal} (k : Er E x a) : Er E' x a := k.mono h.le
theorem RowsEr.mono {E E' : Env} (k : E.le E') {z : Nat} {rows : List (List (SV C.T))} {rA : List (List AVal)} (h : RowsEr E z rows rA) : RowsEr E' z rows rA := ⟨h.1, fun i r ra h1 h2 => ⟨(h.2 i r ra h1 h2).1.mono k, (h.2 i r ra h1 h2).2⟩⟩
theorem RowsAt.mono {E E' : Env} (k : E.le E') {n : Nat} {l : List (C.T n)} {as : List AVal} {off : Nat} (h : RowsAt E n l as off) : RowsAt E' n l as off := fun i y j x a h1 h2 h3 => (h i y j x a h1 h2 h3).mono k

theorem splice_get {as bs : List AVal} {p k : Nat} (hp : p ≤ as.length) : (splice as p bs)[k]? = if k < p then as[k]? else if k < p + bs.length then bs[k - p]? else as[k]? := by
  unfold splice
  split
  · rw [List.append_assoc, List.getElem?_append_left (by simp; omega), List.getElem?_take, if_pos (by assumption)]
  · split
    · rw [List.append_assoc, List.getElem?_append_right (by simp; omega), List.getElem?_append_left (by simp; omega)]
      congr 1
      simp
      omega
    · rw [List.getElem?_append_right (by simp; omega), List.getElem?_drop]
      congr 1
      simp
      omega

structure AppOk (P : Program) (t u e : TypeId) : Prop where
  hu : P.underlying t = some (.slice e)
  hc : (P.info? e).isSome ∧ szOf P e ≠ 0 ∧ notIntB P u = true ∧ zeroFits P e = true ∧ P.bytesOf e ≠ 0

/-- Rows of a new block, all of it. -/
theorem new_rows (hC : CodecOk C) {E' : Env} {H' : Heap} {id p root : Nat} {n : Nat} {l : List (C.T n)} {rA : List (List AVal)} {full : Bool} (hg : E'.γ id = some (.sl (C.sz n) p 0 l.length l.length false)) (hb : E'.β id = some p) (hw : E'.ω p = some root)
    (hH : H'[p]? = some (some (.cells rA.flatten))) (hr : RowsEr E' (C.sz n) (l.map (C.enc n)) rA) : ObjOk E' H' id (.rows n l full root : Obj C.T) := by
  have hl : rA.flatten.length = l.length * C.sz n := by rw [flat_len hr.lens, ← hr.1]; simp
  refine .inr ⟨p, 0, l.length, false, _, hg, hb, hw, hH, Nat.le_refl _, by omega, .inr (by omega), fun _ => .inr rfl, ?_⟩
  exact RowsAt.of_flat hC hr fun k hk => by rw [Nat.zero_add]

theorem all_false {as : List AVal} (h : as.all AVal.one = true) : (!as.all AVal.one) = false := by rw [h]; rfl

theorem ers_one {z : Nat} {rows : List (List (SV C.T))} {rA : List (List AVal)} (h : RowsEr E z rows rA) (ho : rows.flatten.all oneS = true) : rA.flatten.all AVal.one = true := oneS_all h.flatten ho

theorem enc_one (hC : CodecOk C) {n : Nat} (l : List (C.T n)) : ((l.map (C.enc n)).flatten).all oneS = true := by
  rw [List.all_eq_true]
  intro x hx
  rw [List.mem_flatten] at hx
  obtain ⟨r, hr, hxr⟩ := hx
  rw [List.mem_map] at hr
  obtain ⟨y, _, rfl⟩ := hr
  exact List.all_eq_true.1 (hC.one n y) x hxr

/-- Rows behind rows. -/
theorem appendRows_ok (hC : CodecOk C) {lo wlo : Nat} {t u e : TypeId} (hA : AppOk P t u e) {h : SH C} {H : Heap} (hS : SimH E lo wlo h H) {id n : Nat} {l ys : List (C.T n)} {full : Bool} {root : Nat} (ho : hget h id = some (.rows n l full root)) (hz : C.sz n = szOf P e) (hw : wlo ≤ id)
    {a x : AVal} (ha : Er E (.R id : SV C.T) a) {rA : List (List AVal)} (hx : rowsA H (szOf P e) x = some rA) (hr : RowsEr E (C.sz n) (ys.map (C.enc n)) rA) (hf : full = true ∨ ys.length ≤ 1) (hsz : (l.length + ys.length) * P.bytesOf e ≤ 140737488355328) :
    ∃ v H' E', appendA P lo t u H a x = some (v, H') ∧ LeN h.length H.length E E' ∧ SimH E' lo wlo (h.set id none ++ [some (.rows n (l ++ ys) full root)]) H' ∧ H.length ≤ H'.length ∧ Er E' (.R h.length : SV C.T) v := by
  obtain ⟨hu, hc⟩ := hA
  have hn : rA.length = ys.length := by rw [← hr.1]; simp
  have hfl : rA.flatten.length = ys.length * C.sz n := by rw [flat_len hr.lens, hn]
  have hone : rA.flatten.all AVal.one = true := oneS_all hr.flatten (enc_one hC ys)
  have hid := hget_some ho
  have sml : ys.length = 0 → ys = [] := fun h => List.eq_nil_of_length_eq_zero h
  cases ha with
  | R hg hs =>
  -- the way to a new block
  have fresh : ∀ (H1 : Heap) (as : List AVal), H1.length = H.length → (∀ b, b < H.length → H1[b]? ≠ H[b]? → E.β id = some b) → RowsAt E n (l ++ ys) as 0 → as.length = (l.length + ys.length) * C.sz n →
      E.ω H.length = none →
      ∃ E', LeN h.length H.length E E' ∧ SimH E' lo wlo (h.set id none ++ [some (.rows n (l ++ ys) full root)]) (H1 ++ [some (ABlk.cells as)]) ∧ H.length ≤ (H1 ++ [some (ABlk.cells as)]).length ∧ Er E' (.R h.length : SV C.T) (.sl (szOf P e) H.length 0 (l.length + ys.length) (l.length + ys.length) false) := by
    intro H1 as hl1 hX hrows hlen hω
    have hput := hS.put (H' := H1 ++ [some (.cells as)]) id (.rows n (l ++ ys) full root) (some H.length) (.sl (szOf P e) H.length 0 (l.length + ys.length) (l.length + ys.length) false) root (by simp; omega) ?_ ?_ ?_
    · refine ⟨_, hput.1, hput.2, by simp; omega, .R ?_ rfl⟩
      simp [Env.put]
    · intro b hb hne
      rw [List.getElem?_append_left (by omega)] at hne
      have hbe := hX b hb hne
      refine ⟨fun cs hfr => (hS.fr b cs hfr).2 id _ hid hbe, fun i o hi hio hbi => hi (hS.inj i id o _ b hio hid hbi hbe)⟩
    · intro b hb
      simp only [Option.some.injEq] at hb
      subst hb
      refine ⟨by simp; omega, hS.ll, fun cs hfr => ?_, fun i o hi hio hbi => ?_, .inl ⟨hω, Nat.le_refl _⟩⟩
      · have := lt_of_some (hS.fr _ cs hfr).1
        omega
      · have := hS.bnd i _ hbi
        omega
    · intro hle
      refine .inr ⟨H.length, 0, l.length + ys.length, false, as, ?_, ?_, ?_, ?_, by simp, ?_, .inr ?_, fun _ => .inr (by simp), hrows.mono hle.le⟩
      · simp [Env.put, hz]
      · simp [Env.put]
      · simp [Env.put]
      · rw [← hl1]; simp
      · omega
      · omega
  have noω : E.ω H.length = none := by
    cases hwn : E.ω H.length with
    | none => rfl
    | some r => have := (hS.own _ r hwn).1; omega
  rcases hS.obj id _ hid with ⟨rfl, hb0, a', g1, g2⟩ | ⟨b, off, cap, ex, as, g1, g2, gw, g3, g4, g5, g6, g7, g8⟩
  · rw [hg] at g1
    simp only [Option.some.injEq] at g1
    subst g1
    simp only [List.length_nil, Nat.zero_add] at hsz fresh
    by_cases h0 : ys.length = 0
    · -- nothing behind nothing
      have hy := sml h0
      subst hy
      have hr0 : rA = [] := List.eq_nil_of_length_eq_zero (by rw [hn]; rfl)
      subst hr0
      have e0 : appendA P lo t u H a x = some (a, H) := by
        rcases g2 with rfl | rfl
        · simp [appendA, hu, hc, hx]
        · simp [appendA, hu, hc, hx, hz]
      have hput := hS.put (H' := H) id (.rows n ([] ++ []) full root) none a root (Nat.le_refl _) (fun b _ hne => (hne rfl).elim) (fun b hb => by cases hb) (fun hle => .inl ⟨rfl, by simp [Env.put], a, by simp [Env.put], g2⟩)
      exact ⟨a, H, _, e0, hput.1, hput.2, Nat.le_refl _, .R (by simp [Env.put]) hs⟩
    · have hy0 : rA.length ≠ 0 := by omega
      obtain ⟨E', k1, k2, k3, k4⟩ := fresh H rA.flatten rfl (fun b _ hne => (hne rfl).elim) (by
        rw [List.nil_append]
        exact RowsAt.of_flat hC hr fun k hk => by rw [Nat.zero_add]) hfl noω
      refine ⟨_, _, E', ?_, k1, k2, k3, k4⟩
      rcases g2 with rfl | rfl
      · simp only [appendA, hu, hc, hx, hone]
        simp [hy0, hn, hsz, h0, hc]
      · simp only [appendA, hu, hc, hx, hone]
        simp [hy0, hn, hsz, h0, hz, hc]
  · rw [hg] at g1
    simp only [Option.some.injEq] at g1
    subst g1
    have hlo := hS.low id b hw g2
    have hcap := Nat.mul_le_mul_right (C.sz n) g4
    have hblt := lt_of_some g3
    by_cases h0 : ys.length = 0
    · have hy := sml h0
      subst hy
      have hr0 : rA = [] := List.eq_nil_of_length_eq_zero (by rw [hn]; rfl)
      subst hr0
      have e0 : appendA P lo t u H (.sl (C.sz n) b off l.length cap ex) x = some (.sl (C.sz n) b off l.length cap ex, H) := by
        simp only [appendA, hu, hc, hx]
        simp [hz, g3, hc]
        rw [← hz]
        omega
      have hput := hS.put (H' := H) id (.rows n (l ++ []) full root) (some b) (.sl (C.sz n) b off l.length cap ex) root (Nat.le_refl _) (fun b _ hne => (hne rfl).elim) (fun b' hb => by
        simp only [Option.some.injEq] at hb
        subst hb
        exact ⟨hblt, hlo, fun cs hfr => (hS.fr b cs hfr).2 id _ hid g2, fun i o hi hio hbi => hi (hS.inj i id o _ b hio hid hbi g2), .inr gw⟩)
        (fun hle => .inr ⟨b, off, cap, ex, as, by simp [Env.put], by simp [Env.put], by simp [Env.put], g3, by simpa using g4, g5, g6, by simpa using g7, by rw [List.append_nil]; exact g8.mono hle.le⟩)
      exact ⟨_, H, _, e0, hput.1, hput.2, Nat.le_refl _, .R (by simp [Env.put]) rfl⟩
    · have hy0 : rA.length ≠ 0 := by omega
      have hadd : (l.length + ys.length) * C.sz n = l.length * C.sz n + ys.length * C.sz n := Nat.add_mul _ _ _
      by_cases hroom : l.length + ys.length ≤ cap
      · -- in its place
        have hroom2 := Nat.mul_le_mul_right (C.sz n) hroom
        have e0 : appendA P lo t u H (.sl (C.sz n) b off l.length cap ex) x = some (.sl (szOf P e) b off (l.length + ys.length) cap ex, H.set b (some (.cells (splice as (off + l.length * szOf P e) rA.flatten)))) := by
          simp only [appendA, hu, hc, hx, hone]
          simp [hz, g3, hy0, hn, h0, hroom, hlo, hc]
          rw [← hz]
          omega
        have hspl : (splice as (off + l.length * szOf P e) rA.flatten).length = as.length := by
          unfold splice
          rw [← hz]
          simp [hfl]
          omega
        have hput := hS.put (H' := H.set b (some (.cells (splice as (off + l.length * szOf P e) rA.flatten)))) id (.rows n (l ++ ys) full root) (some b) (.sl (szOf P e) b off (l.length + ys.length) cap ex) root (by simp)
          (fun b' hb hne => by
            rw [List.getElem?_set] at hne
            split at hne
            · rename_i e1
              subst e1
              exact ⟨fun cs hfr => (hS.fr b cs hfr).2 id _ hid g2, fun i o hi hio hbi => hi (hS.inj i id o _ b hio hid hbi g2)⟩
            · exact (hne rfl).elim)
          (fun b' hb => by
            simp only [Option.some.injEq] at hb
            subst hb
            exact ⟨by simpa using hblt, hlo, fun cs hfr => (hS.fr b cs hfr).2 id _ hid g2, fun i o hi hio hbi => hi (hS.inj i id o _ b hio hid hbi g2), .inr gw⟩)
          (fun hle => by
            refine .inr ⟨b, off, cap, ex, _, by simp [Env.put, hz], by simp [Env.put], by simp [Env.put], by rw [List.getElem?_set, if_pos rfl, if_pos hblt], by simpa using hroom, by rw [hspl]; exact g5, by rw [hspl]; exact g6, ?_, ?_⟩
            · intro hfu
              rcases g7 hfu with h1 | h1
              · exact .inl h1
              · omega
            · refine (RowsAt.append hC g8 hr ?_ ?_).mono hle.le
              · intro k hk
                rw [splice_get (by rw [← hz]; omega), if_pos (by rw [← hz]; omega)]
              · intro k hk
                rw [splice_get (by rw [← hz]; omega), if_neg (by rw [← hz]; omega), if_pos (by rw [← hz]; omega)]
                congr 1
                rw [← hz]
                omega)
        exact ⟨_, _, _, e0, hput.1, hput.2, by simp, .R (by simp [Env.put]) rfl⟩
      · -- a new block
        have rowsNew : ∀ (pre : List AVal), pre = (as.drop off).take (l.length * C.sz n) → RowsAt E n (l ++ ys) (pre ++ rA.flatten) 0 ∧ (pre ++ rA.flatten).length = (l.length + ys.length) * C.sz n := by
          rintro pre rfl
          have hpl : ((as.drop off).take (l.length * C.sz n)).length = l.length * C.sz n := by simp; omega
          refine ⟨RowsAt.append hC g8 hr ?_ ?_, by rw [List.length_append, hpl, hfl]; omega⟩
          · intro k hk
            rw [Nat.zero_add, List.getElem?_append_left (by omega), List.getElem?_take, if_pos hk, List.getElem?_drop]
          · intro k hk
            rw [Nat.zero_add, List.getElem?_append_right (by omega), hpl, Nat.add_sub_cancel_left]
        cases hex : ex with
        | true =>
          subst hex
          obtain ⟨r1, r2⟩ := rowsNew _ rfl
          obtain ⟨E', k1, k2, k3, k4⟩ := fresh H _ rfl (fun b _ hne => (hne rfl).elim) r1 r2 noω
          refine ⟨_, _, E', ?_, k1, k2, k3, k4⟩
          simp only [appendA, hu, hc, hx, hone]
          simp [hz, g3, hy0, hn, h0, hroom, hsz, hc]
          rw [← hz]
          omega
        | false =>
          subst hex
          have hcl : cap = l.length := by
            rcases hf with hf | hf
            · rcases g7 hf with h1 | h1
              · cases h1
              · exact h1
            · omega
          subst hcl
          have hend : off + l.length * C.sz n = as.length := by
            rcases g6 with h1 | h1
            · cases h1
            · exact h1
          have hpre : as.drop off = (as.drop off).take (l.length * C.sz n) := (List.take_of_length_le (by simp; omega)).symm
          obtain ⟨r1, r2⟩ := rowsNew (as.drop off) hpre
          obtain ⟨E', k1, k2, k3, k4⟩ := fresh (H.set b none) _ (by simp) (fun b' _ hne => by
            rw [List.getElem?_set] at hne
            split at hne
            · rename_i e1; rw [← e1]; exact g2
            · exact (hne rfl).elim) r1 r2 noω
          refine ⟨_, _, E', ?_, k1, k2, k3, k4⟩
          simp only [appendA, hu, hc, hx, hone]
          have hroom' : ¬ (l.length + ys.length ≤ l.length) := hroom
          rw [hz] at hend
          have hle2 : off + l.length * szOf P e ≤ as.length := by omega
          simp [hz, g3, hy0, hn, h0, hsz, hlo, hc, hroom', hle2, hend]

end Go.Sy

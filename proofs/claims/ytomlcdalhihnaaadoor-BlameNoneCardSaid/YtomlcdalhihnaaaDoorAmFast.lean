/- The idealised run once more, over trees, for the kernel: what it comes to the run over lists comes to. Generic: over any program. -/
import Derived.Test.YtomlcdalhihnaaaDoorAmTree
import Derived.Test.YtomlcdalhihnaaaDoorAmLow
namespace Go.Am

abbrev HGet := Nat → Option (Option ABlk)

/-! ### The operations, by what reads an operand and a block -/
def atG (hg : HGet) : AVal → Option (List AVal)
  | .ipt cs => some cs
  | .eptr _ cs => some cs
  | .ptr b off => match hg b with
    | some (some (.cells cs)) => some (cs.drop off)
    | _ => none
  | _ => none
theorem atG_eq (H : Heap) (x : AVal) : atG (fun b => H[b]?) x = atA H x := by cases x <;> rfl

section
variable (P : Program)
def loadG (t : TypeId) (hg : HGet) (x : AVal) : Option AVal := (atG hg x).bind fun cs => partA P t cs 0

def sliceG (t : TypeId) (hg : HGet) (x : AVal) (lo hi mx : Option AVal) : Option AVal :=
  match P.underlying t, x with
  | some (.array n e), .ptr b off =>
    if (P.info? e).isSome ∧ mx.isNone then
      match hg b with
      | some (some (.cells cs)) =>
        if off + n * szOf P e ≤ cs.length then (boundA n n hi).bind fun h => (boundA 0 h lo).map fun l => .sl (szOf P e) b (off + l * szOf P e) (h - l) (n - l) true
        else none
      | _ => none
    else none
  | _, _ => sliceA P t [] x lo hi mx

theorem sliceG_eq (t : TypeId) (H : Heap) (x : AVal) (lo hi mx : Option AVal) : sliceG P t (fun b => H[b]?) x lo hi mx = sliceA P t H x lo hi mx := by
  unfold sliceG
  split
  · rename_i n e b off hu
    simp only [sliceA, hu]
    rfl
  · rename_i hne
    unfold sliceA
    split
    · rfl
    · rfl
    · rename_i n e hu
      split
      · split
        · rename_i b off
          exact (hne n e b off hu rfl).elim
        · rfl
        · rfl
      · rfl
    · rfl

def lenG (t : TypeId) (hg : HGet) (x : AVal) : Option AVal :=
  match P.underlying t, x with
  | some .string, .str s => some (.int .i64 s.length)
  | some (.array _ _), .mapr _ => none
  | some (.array n _), _ => some (.int .i64 n)
  | some (.slice _), .nils => some (.int .i64 0)
  | some (.slice _), .list _ rows _ => some (.int .i64 rows.length)
  | some (.slice _), .sl _ _ _ len _ _ => some (.int .i64 len)
  | some (.map _ _), .nilm => some (.int .i64 0)
  | some (.map _ _), .mapr b => match hg b with
    | some (some (.mp es)) => some (.int .i64 es.length)
    | _ => none
  | _, _ => none
theorem lenG_eq (t : TypeId) (H : Heap) (x : AVal) : lenG P t (fun b => H[b]?) x = lenA P t H x := rfl

def lookupG (t : TypeId) (hg : HGet) (m x : AVal) (ok : Bool) : Option AVal :=
  match P.underlying t with
  | some (.map kt et) =>
    match keyKind P kt, zeroA P et with
    | some k, some z =>
      if keyOk k x then
        match m with
        | .nilm => some (if ok then .tup [z, .bool false] else z)
        | .mapr b =>
          match hg b with
          | some (some (.mp es)) =>
            match findA k x es 0 with
            | some (some (_, v)) => some (if ok then .tup [v, .bool true] else v)
            | some none => some (if ok then .tup [z, .bool false] else z)
            | none => none
          | _ => none
        | _ => none
      else none
    | _, _ => none
  | _ => none
theorem lookupG_eq (t : TypeId) (H : Heap) (m x : AVal) (ok : Bool) : lookupG P t (fun b => H[b]?) m x ok = lookupA P t H m x ok := rfl

/-- What becomes of memory. -/
inductive Ed where
  | nop
  | set (b : Nat) (x : Option ABlk)
  | push (x : ABlk)
  | mv (b : Nat) (x : ABlk)

def Ed.onL (H : Heap) : Ed → Heap
  | .nop => H
  | .set b x => H.set b x
  | .push x => H ++ [some x]
  | .mv b x => H.set b none ++ [some x]
noncomputable def Ed.onH (h : Hp) : Ed → Option Hp
  | .nop => some h
  | .set b x => some (h.set b x)
  | .push x => h.push (some x)
  | .mv b x => (h.set b none).push (some x)

theorem Ed.on_ok {h h' : Hp} (ho : h.Ok) : ∀ {e : Ed}, e.onH h = some h' → h'.Ok ∧ h'.toL = e.onL h.toL
  | .nop, e => by simp only [Ed.onH, Option.some.injEq] at e; subst e; exact ⟨ho, rfl⟩
  | .set b x, e => by
    simp only [Ed.onH, Option.some.injEq] at e
    subst e
    exact ⟨Hp.set_ok ho b x, Hp.set_toL ho b x⟩
  | .push x, e => Hp.push_ok ho e
  | .mv b x, e => by
    obtain ⟨h1, h2⟩ := Hp.push_ok (Hp.set_ok ho b none) e
    exact ⟨h1, by rw [h2, Hp.set_toL ho]; rfl⟩

def storeG (lo : Nat) (t : TypeId) (hg : HGet) (x v : AVal) : Option Ed :=
  match x with
  | .ptr b off => match hg b with
    | some (some (.cells cs)) =>
      if lo ≤ b ∧ v.cells.length = szOf P t ∧ (P.info? t).isSome ∧ v.cells.all AVal.one ∧ off + v.cells.length ≤ cs.length then
        some (.set b (some (.cells (splice cs off v.cells))))
      else none
    | _ => none
  | _ => none
theorem storeG_eq (lo : Nat) (t : TypeId) (H : Heap) (x v : AVal) : (storeG P lo t (fun b => H[b]?) x v).map (Ed.onL H) = storeA P lo t H x v := by
  unfold storeG storeA
  cases x <;> first | rfl | skip
  rename_i b off
  simp only
  cases H[b]? with
  | none => rfl
  | some o => cases o with
    | none => rfl
    | some blk => cases blk with
      | mp es => rfl
      | cells cs =>
        simp only [apply_ite (Option.map (Ed.onL H)), Option.map_none, Option.map_some]
        rfl

def mapUpdateG (lo : Nat) (t : TypeId) (hg : HGet) (m x v : AVal) : Option Ed :=
  match P.underlying t with
  | some (.map kt _) =>
    match keyKind P kt with
    | some k =>
      if keyOk k x then
        match m with
        | .mapr b =>
          if lo ≤ b then
            match hg b with
            | some (some (.mp es)) =>
              match findA k x es 0 with
              | some (some (i, _)) => some (.set b (some (.mp (es.set i (x, v)))))
              | some none => some (.set b (some (.mp (es ++ [(x, v)]))))
              | none => none
            | _ => none
          else none
        | _ => none
      else none
    | none => none
  | _ => none
theorem mapUpdateG_eq (lo : Nat) (t : TypeId) (H : Heap) (m x v : AVal) : (mapUpdateG P lo t (fun b => H[b]?) m x v).map (Ed.onL H) = mapUpdateA P lo t H m x v := by
  unfold mapUpdateG mapUpdateA
  cases P.underlying t with
  | none => rfl
  | some d =>
    cases d <;> first | rfl | skip
    rename_i kt et
    simp only
    cases keyKind P kt with
    | none => rfl
    | some k =>
      simp only [apply_ite (Option.map (Ed.onL H)), Option.map_none]
      congr 1
      cases m <;> first | rfl | skip
      rename_i b
      simp only [apply_ite (Option.map (Ed.onL H)), Option.map_none]
      congr 1
      cases H[b]? with
      | none => rfl
      | some o => cases o with
        | none => rfl
        | some blk => cases blk with
          | cells cs => rfl
          | mp es =>
            simp only
            cases findA k x es 0 with
            | none => rfl
            | some q => cases q with
              | none => rfl
              | some y => rfl

def rowsG (hg : HGet) (sz : Nat) : AVal → Option (List (List AVal))
  | .nils => some []
  | .list s rows _ => if s = sz then some rows else none
  | .str s => if sz = 1 then some (s.map fun b => [.int .u8 b.toNat]) else none
  | .sl s b off len _ _ => if s = sz then
      match hg b with
      | some (some (.cells cs)) => if off + len * sz ≤ cs.length then some (chunk sz len (cs.drop off)) else none
      | _ => none
    else none
  | _ => none
theorem rowsG_eq (H : Heap) (sz : Nat) (x : AVal) : rowsG (fun b => H[b]?) sz x = rowsA H sz x := by cases x <;> rfl

def appendG (lo : Nat) (t u : TypeId) (hl : Nat) (hg : HGet) (s x : AVal) : Option (AVal × Ed) :=
  match P.underlying t with
  | some (.slice e) =>
    let sz := szOf P e
    if (P.info? e).isSome ∧ sz ≠ 0 ∧ notIntB P u = true ∧ zeroFits P e = true ∧ P.bytesOf e ≠ 0 then
      match rowsG hg sz x with
      | none => none
      | some rows =>
        let new := rows.flatten
        let n := rows.length
        if !(new.all AVal.one) then none else
        match s with
        | .nils =>
          if n = 0 then some (.nils, .nop)
          else if n * P.bytesOf e ≤ 140737488355328 then some (.sl sz hl 0 n n false, .push (.cells new))
          else none
        | .list s0 rs ex =>
          if s0 ≠ sz then none else
          if n = 0 then some (.list s0 rs ex, .nop)
          else if ex ∧ (rs.flatten).all AVal.one ∧ (rs.length + n) * P.bytesOf e ≤ 140737488355328 then some (.sl sz hl 0 (rs.length + n) (rs.length + n) false, .push (.cells (rs.flatten ++ new)))
          else none
        | .sl s0 b off len cap ex =>
          if s0 ≠ sz then none else
          match hg b with
          | some (some (.cells cs)) =>
            if off + len * sz ≤ cs.length then
              if len + n ≤ cap then
                if lo ≤ b ∧ off + (len + n) * sz ≤ cs.length then some (.sl sz b off (len + n) cap ex, .set b (some (.cells (splice cs (off + len * sz) new))))
                else none
              else if (len + n) * P.bytesOf e ≤ 140737488355328 then
                if ex then some (.sl sz hl 0 (len + n) (len + n) false, .push (.cells ((cs.drop off).take (len * sz) ++ new)))
                else if lo ≤ b ∧ off + len * sz = cs.length then some (.sl sz hl 0 (len + n) (len + n) false, .mv b (.cells (cs.drop off ++ new)))
                else none
              else none
            else none
          | _ => none
        | _ => none
    else none
  | _ => none
theorem appendG_eq (lo : Nat) (t u : TypeId) (H : Heap) (s x : AVal) : (appendG P lo t u H.length (fun b => H[b]?) s x).map (fun r => (r.1, r.2.onL H)) = appendA P lo t u H s x := by
  unfold appendG appendA
  cases P.underlying t with
  | none => rfl
  | some d =>
    cases d <;> first | rfl | skip
    rename_i e
    simp only [rowsG_eq, apply_ite (Option.map fun r : AVal × Ed => (r.1, r.2.onL H)), Option.map_none]
    congr 1
    cases rowsA H (szOf P e) x with
    | none => rfl
    | some rows =>
      simp only [apply_ite (Option.map fun r : AVal × Ed => (r.1, r.2.onL H)), Option.map_none]
      congr 1
      cases s <;> first | rfl | skip
      · simp only [apply_ite (Option.map fun r : AVal × Ed => (r.1, r.2.onL H)), Option.map_none, Option.map_some]
        rfl
      · simp only [apply_ite (Option.map fun r : AVal × Ed => (r.1, r.2.onL H)), Option.map_none, Option.map_some]
        rfl
      · rename_i s0 b off len cap ex
        simp only [apply_ite (Option.map fun r : AVal × Ed => (r.1, r.2.onL H)), Option.map_none]
        congr 1
        cases H[b]? with
        | none => rfl
        | some o => cases o with
          | none => rfl
          | some blk => cases blk with
            | mp es => rfl
            | cells cs =>
              simp only [apply_ite (Option.map fun r : AVal × Ed => (r.1, r.2.onL H)), Option.map_none, Option.map_some]
              rfl

end

def newG (S : AStat) (ev : Operand → AVal) : Op → Option (ABlk × (Nat → AVal))
  | .alloc t => allocA S.P t
  | .box _ x => boxA (ev x)
  | .buildSlice t len parts => buildSliceA S.P t len (parts.toList.map fun p => (p.1, ev p.2))
  | .makeSlice t l c => makeSliceA S.P t (ev l) (ev c)
  | .makeMap _ none => some (.mp [], fun id => .mapr id)
  | _ => none
theorem newG_eq (S : AStat) (ρ : List AVal) (o : Op) : newG S (evalA S ρ) o = newA S ρ o := by
  cases o <;> first | rfl | (rename_i t r; cases r <;> rfl)

def qPick (ev : Operand → AVal) (c a b : Operand) : Option AVal :=
  match ev c with
  | .bool true => some (ev a)
  | .bool false => some (ev b)
  | _ => none
def qBuild (P : Program) (ev : Operand → AVal) (t : TypeId) (parts : Array (Nat × Operand)) : Option AVal := buildA P t (parts.toList.map fun p => (p.1, ev p.2))
def qBin (P : Program) (ev : Operand → AVal) (op : BinOp) (t : TypeId) (x y : Operand) : Option AVal := binA P op t (litB x || litB y) (ev x) (ev y)
def qIface (P : Program) (ev : Operand → AVal) (t : TypeId) (x : Operand) : Option AVal := if ifaceB P t then none else some (.iface t (ev x))
def qFunc (ev : Operand → AVal) (f : Fn) (first captured : Array Operand) : Option AVal := some (.fn f (first.toList.map ev) (captured.toList.map ev))
def qSlice (P : Program) (ev : Operand → AVal) (hg : HGet) (t : TypeId) (x : Operand) (lo hi mx : Option Operand) : Option AVal := sliceG P t hg (ev x) (lo.map ev) (hi.map ev) (mx.map ev)
def strOfG (P : Program) (s d : TypeId) (hg : HGet) (x : AVal) : Option AVal :=
  match P.underlying s, P.underlying d with
  | some (.slice e), some .string =>
    match P.underlying e, x with
    | some (.int .u8), .nils => some (.str [])
    | some (.int .u8), .list sz rows _ => if sz = 1 then (bytesOf? rows).map .str else none
    | some (.int .u8), .sl sz b off len _ _ =>
      if sz = 1 then
        match hg b with
        | some (some (.cells cs)) => if off + len ≤ cs.length then (bytesOf? (chunk 1 len (cs.drop off))).map .str else none
        | _ => none
      else none
    | _, _ => none
  | _, _ => none
def qConv (P : Program) (hg : HGet) (s d : TypeId) (x : AVal) : Option AVal :=
  match convA P s d x with
  | some v => some v
  | none => strOfG P s d hg x
def qExtract (ev : Operand → AVal) (x : Operand) (i : Nat) : Option AVal :=
  match ev x with
  | .tup vs => vs[i]?
  | _ => none
def qLen (P : Program) (ev : Operand → AVal) (hg : HGet) (args : Array Operand) (ts : Array TypeId) : Option AVal :=
  match ts[0]?, args[0]? with
  | some t, some x => lenG P t hg (ev x)
  | _, _ => none
def qMin (ev : Operand → AVal) (args : Array Operand) : Option AVal :=
  match args.toList.map ev with
  | [.int k x, .int _ y] => some (.int k (if y < x then y else x))
  | _ => none
def qMax (ev : Operand → AVal) (args : Array Operand) : Option AVal :=
  match args.toList.map ev with
  | [.int k x, .int _ y] => some (.int k (if x < y then y else x))
  | _ => none
def qBuiltin (P : Program) (ev : Operand → AVal) (hg : HGet) (b : Builtin) (args : Array Operand) (ts : Array TypeId) : Option AVal :=
  match b with
  | .len => qLen P ev hg args ts
  | .min => qMin ev args
  | .max => qMax ev args
  | _ => none
def qCall (P : Program) (ev : Operand → AVal) (hg : HGet) (c : Call) : Option AVal :=
  match c.callee with
  | .builtin b => qBuiltin P ev hg b c.args c.argTypes
  | _ => none

def quietG (S : AStat) (ev : Operand → AVal) (hg : HGet) (o : Op) : Option AVal :=
  match o with
  | .move x => some (ev x)
  | .assign x => some (ev x)
  | .pick c a b => qPick ev c a b
  | .build t parts => qBuild S.P ev t parts
  | .load t x => loadG S.P t hg (ev x)
  | .nilCheck x => nilCheckA (ev x)
  | .binOp op t x y _ => qBin S.P ev op t x y
  | .unOp op _ x => unA op (ev x)
  | .convert s d x => qConv S.P hg s d (ev x)
  | .makeInterface t x => qIface S.P ev t x
  | .makeFunc f first captured => qFunc ev f first captured
  | .slice t x lo hi mx => qSlice S.P ev hg t x lo hi mx
  | .fieldAddr t x f => fieldAddrA S.P t (ev x) f
  | .field t x f => fieldA S.P t (ev x) f
  | .indexAddr t x i => indexAddrA S.P t (ev x) (ev i)
  | .index t x i => indexA S.P t (ev x) (ev i)
  | .lookup t m x ok => lookupG S.P t hg (ev m) (ev x) ok
  | .extract x i => qExtract ev x i
  | .call c => qCall S.P ev hg c
  | .typeAssert x _ t ok => typeAssertA S.P (ev x) t ok
  | _ => none

theorem quietG_eq (S : AStat) (ρ : List AVal) (H : Heap) (o : Op) : quietG S (evalA S ρ) (fun b => H[b]?) o = quietA S ρ H o := by
  cases o with
  | load t x => simp only [quietG, quietA, loadG, loadA, atG_eq]
  | slice t x lo hi mx => simp only [quietG, quietA, qSlice, sliceG_eq]
  | call c =>
    obtain ⟨callee, args, ts⟩ := c
    cases callee with
    | value f => rfl
    | invoke r n => rfl
    | builtin b => cases b <;> rfl
  | _ => rfl

def readsG (ev : Operand → AVal) : Op → Option Nat
  | .load _ x => blkOf (ev x)
  | .lookup _ m _ _ => blkOf (ev m)
  | .slice _ x _ _ _ => blkOf (ev x)
  | .convert _ _ x => slBlk (ev x)
  | .call { callee := .builtin .len, args := args, .. } =>
    match args[0]? with
    | some x => match ev x with
      | .mapr b => some b
      | _ => none
    | none => none
  | _ => none
theorem readsG_eq (S : AStat) (ρ : List AVal) (o : Op) : readsG (evalA S ρ) o = readsA S ρ o := by
  cases o with
  | call c =>
    obtain ⟨callee, args, ts⟩ := c
    cases callee with
    | value f => rfl
    | invoke r n => rfl
    | builtin b => cases b <;> rfl
  | _ => rfl

def touchG (S : AStat) (ev : Operand → AVal) : Op → Option (List Nat)
  | .store _ x _ => some (blkOf (ev x)).toList
  | .mapUpdate _ m _ _ => some (blkOf (ev m)).toList
  | .insert _ m _ _ => some (blkOf (ev m)).toList
  | .call { callee := .builtin .append, args := args, .. } =>
    match args[0]? with
    | some x => match ev x with
      | .sl _ b _ _ _ _ => some [b]
      | _ => some []
    | none => none
  | .call { callee := .value f, .. } =>
    match ev f with
    | .fn (.func g) _ _ => if (S.hook g).isNone && (S.pol g == .pure || S.pol g == .fresh) then some [] else none
    | _ => none
  | _ => none
theorem touchG_eq (S : AStat) (ρ : List AVal) (o : Op) : touchG S (evalA S ρ) o = touchA S ρ o := by
  cases o with
  | call c =>
    obtain ⟨callee, args, ts⟩ := c
    cases callee with
    | value f => rfl
    | invoke r n => rfl
    | builtin b => cases b <;> rfl
  | _ => rfl

/-! ### The run -/
noncomputable def evalF (S : AStat) (r : Rg) : Operand → AVal
  | .tmp t => r.get t
  | .const v => constA v
  | .global g => match S.glob g with
    | some cs => .ipt cs
    | none => .junk
  | .func f => .fn (.func f) [] []
theorem evalF_eq (S : AStat) {r : Rg} (h : r.Ok) : evalF S r = evalA S r.toL := by
  funext x
  cases x with
  | tmp t => exact (Rg.get_toL h t).symm
  | _ => rfl

theorem getF_eq {h : Hp} (ho : h.Ok) : h.get = fun b => h.toL[b]? := funext fun b => (Hp.get_toL ho b).symm

abbrev CallT := Nat → FuncId → List AVal → Hp → Option (AVal × Hp)
abbrev ExecT := Nat → Code → Rg → Hp → Option (AExit × Rg × Hp)

def CallSim (ct : CallT) (cl : CallF) : Prop := ∀ lo f args h r h', h.Ok → ct lo f args h = some (r, h') → h'.Ok ∧ cl lo f args h.toL = some (r, h'.toL)
def ExecSim (rt : ExecT) (rl : ExecF) : Prop := ∀ lo c r h x r' h', r.Ok → h.Ok → rt lo c r h = some (x, r', h') → r'.Ok ∧ h'.Ok ∧ rl lo c r.toL h.toL = some (x, r'.toL, h'.toL)

noncomputable def guardF (ops : List Oper) (r : Rg) (o : Oper) : Option Bool :=
  match o.guard with
  | none => some true
  | some (j, want) =>
    match (ops[j]?).bind (·.dst) with
    | none => some false
    | some d =>
      match r.get? d with
      | none => some false
      | some (.bool b) => some (b == want)
      | some .junk => none
      | some _ => some false
theorem guardF_eq {ops : List Oper} {r : Rg} (h : r.Ok) (o : Oper) : guardF ops r o = guardA ops r.toL o := by
  unfold guardF guardA
  cases o.guard with
  | none => rfl
  | some p =>
    obtain ⟨j, w⟩ := p
    simp only
    cases (ops[j]?).bind (·.dst) with
    | none => rfl
    | some d =>
      simp only [Rg.get?_toL h]
      rfl

noncomputable def putF (r : Rg) (dst : Option Tmp) (v : AVal) : Rg :=
  match dst with
  | some d => r.set d v
  | none => r
theorem putF_ok {r : Rg} (h : r.Ok) (dst : Option Tmp) (v : AVal) : (putF r dst v).Ok ∧ (putF r dst v).toL = putA r.toL dst v := by
  cases dst with
  | none => exact ⟨h, rfl⟩
  | some d => exact ⟨Rg.set_ok h d v, Rg.set_toL h d v⟩

noncomputable def eStore (S : AStat) (lo : Nat) (r : Rg) (h : Hp) (t : TypeId) (x v : Operand) : Option (AVal × Hp) :=
  (storeG S.P lo t h.get (evalF S r x) (evalF S r v)).bind fun e => (e.onH h).map fun h' => (undefA, h')
noncomputable def eUpdate (S : AStat) (lo : Nat) (r : Rg) (h : Hp) (t : TypeId) (m k v : Operand) : Option (AVal × Hp) :=
  (mapUpdateG S.P lo t h.get (evalF S r m) (evalF S r k) (evalF S r v)).bind fun e => (e.onH h).map fun h' => (undefA, h')
noncomputable def eAppend (S : AStat) (lo : Nat) (r : Rg) (h : Hp) (args : Array Operand) (ts : Array TypeId) : Option (AVal × Hp) :=
  match args.toList.map (evalF S r), ts.toList with
  | [s, x], [t, u] => (appendG S.P lo t u h.n h.get s x).bind fun e => (e.2.onH h).map fun h' => (e.1, h')
  | _, _ => none
noncomputable def eCall (S : AStat) (call : CallT) (lo : Nat) (r : Rg) (h : Hp) (f : Operand) (args : Array Operand) : Option (AVal × Hp) :=
  match evalF S r f with
  | .fn (.func g) first captured =>
    match S.ext g (first ++ args.toList.map (evalF S r) ++ captured) with
    | some v => some (v, h)
    | none => call lo g (first ++ args.toList.map (evalF S r) ++ captured) h
  | _ => none
noncomputable def eInvoke (S : AStat) (call : CallT) (lo : Nat) (r : Rg) (h : Hp) (x : Operand) (name : String) (args : Array Operand) : Option (AVal × Hp) :=
  match evalF S r x with
  | .iface t v =>
    match S.meth t name, nk v with
    | some g, some (.p, _) => call lo g (v :: args.toList.map (evalF S r)) h
    | _, _ => match S.methV t name v with
      | some (g, v') => (S.ext g (v' :: args.toList.map (evalF S r))).map fun y => (y, h)
      | none => none
  | _ => none
noncomputable def eBuiltin (S : AStat) (lo : Nat) (r : Rg) (h : Hp) (b : Builtin) (args : Array Operand) (ts : Array TypeId) : Option (AVal × Hp) :=
  match b with
  | .append => eAppend S lo r h args ts
  | _ => none
noncomputable def eAny (S : AStat) (call : CallT) (lo : Nat) (r : Rg) (h : Hp) (c : Call) : Option (AVal × Hp) :=
  match c.callee with
  | .builtin b => eBuiltin S lo r h b c.args c.argTypes
  | .value f => eCall S call lo r h f c.args
  | .invoke x name => eInvoke S call lo r h x name c.args
noncomputable def effF (S : AStat) (call : CallT) (lo : Nat) (r : Rg) (h : Hp) (o : Op) : Option (AVal × Hp) :=
  match o with
  | .store t x v => eStore S lo r h t x v
  | .mapUpdate t m k v => eUpdate S lo r h t m k v
  | .insert t m k v => eUpdate S lo r h t m k v
  | .call c => eAny S call lo r h c
  | _ => none

theorem ed_map {x : Option Ed} {h h' : Hp} (ho : h.Ok) {v u : AVal} (e : (x.bind fun e => (e.onH h).map fun h' => (v, h')) = some (u, h')) :
    u = v ∧ h'.Ok ∧ x.map (Ed.onL h.toL) = some h'.toL := by
  rw [Option.bind_eq_some_iff] at e
  obtain ⟨ed, rfl, e⟩ := e
  rw [Option.map_eq_some_iff] at e
  obtain ⟨h1, h2, h3⟩ := e
  simp only [Prod.mk.injEq] at h3
  obtain ⟨rfl, rfl⟩ := h3
  obtain ⟨k1, k2⟩ := Ed.on_ok ho h2
  exact ⟨rfl, k1, by simp [k2]⟩

theorem effF_ok {S : AStat} {ct : CallT} {cl : CallF} (hc : CallSim ct cl) {lo : Nat} {r : Rg} {h h' : Hp} (hr : r.Ok) (ho : h.Ok) {op : Op} {v : AVal} (e : effF S ct lo r h op = some (v, h')) :
    h'.Ok ∧ effA S cl lo r.toL h.toL op = some (v, h'.toL) := by
  unfold effF at e
  split at e
  · unfold eStore at e
    rw [evalF_eq S hr, getF_eq ho] at e
    obtain ⟨rfl, h1, h2⟩ := ed_map ho e
    rw [storeG_eq] at h2
    exact ⟨h1, by simp only [effA, h2, Option.map_some]⟩
  · unfold eUpdate at e
    rw [evalF_eq S hr, getF_eq ho] at e
    obtain ⟨rfl, h1, h2⟩ := ed_map ho e
    rw [mapUpdateG_eq] at h2
    exact ⟨h1, by simp only [effA, h2, Option.map_some]⟩
  · unfold eUpdate at e
    rw [evalF_eq S hr, getF_eq ho] at e
    obtain ⟨rfl, h1, h2⟩ := ed_map ho e
    rw [mapUpdateG_eq] at h2
    exact ⟨h1, by simp only [effA, h2, Option.map_some]⟩
  · rename_i cl
    obtain ⟨callee, args, ts⟩ := cl
    unfold eAny at e
    simp only at e
    cases callee with
    | builtin b =>
      simp only [eBuiltin] at e
      split at e <;> first | (cases e; done) | skip
      unfold eAppend at e
      rw [evalF_eq S hr, getF_eq ho] at e
      split at e
      · rename_i s x t u e1 e2
        rw [Option.bind_eq_some_iff] at e
        obtain ⟨ed, h1, e⟩ := e
        rw [Option.map_eq_some_iff] at e
        obtain ⟨h2, h3, h4⟩ := e
        simp only [Prod.mk.injEq] at h4
        obtain ⟨rfl, rfl⟩ := h4
        obtain ⟨k1, k2⟩ := Ed.on_ok ho h3
        refine ⟨k1, ?_⟩
        have := appendG_eq S.P lo t u h.toL s x
        rw [Hp.length_toL, h1] at this
        simp only [effA, e1, e2, ← this, Option.map_some, k2]
      · cases e
    | value f =>
      unfold eCall at e
      rw [evalF_eq S hr] at e
      simp only at e
      split at e
      · rename_i g first captured e1
        simp only [effA, e1]
        split at e
        · rename_i w hw
          simp only [Option.some.injEq, Prod.mk.injEq] at e
          obtain ⟨rfl, rfl⟩ := e
          exact ⟨ho, by rw [hw]⟩
        · rename_i hw
          obtain ⟨k1, k2⟩ := hc _ _ _ _ _ _ ho e
          exact ⟨k1, by rw [hw]; exact k2⟩
      · cases e
    | invoke x name =>
      unfold eInvoke at e
      rw [evalF_eq S hr] at e
      simp only at e
      split at e
      · rename_i t w e1
        simp only [effA, e1]
        split at e
        · rename_i g nb hm hn
          obtain ⟨k1, k2⟩ := hc _ _ _ _ _ _ ho e
          exact ⟨k1, by rw [hm, hn]; exact k2⟩
        · rename_i hne
          split at e
          · rename_i g w1 hm
            rw [Option.map_eq_some_iff] at e
            obtain ⟨y, h1, h2⟩ := e
            simp only [Prod.mk.injEq] at h2
            obtain ⟨rfl, rfl⟩ := h2
            refine ⟨ho, ?_⟩
            split
            · rename_i h3 h4
              exact (hne _ _ h3 h4).elim
            · rw [hm]
              simp only [h1, Option.map_some]
          · cases e
      · cases e
  · cases e

noncomputable def opF (S : AStat) (call : CallT) (lo : Nat) (r : Rg) (h : Hp) (o : Oper) : Option (AVal × Hp) :=
  match quietG S (evalF S r) h.get o.op with
  | some v => some (v, h)
  | none =>
    match newG S (evalF S r) o.op with
    | some (blk, mk) => (h.push (some blk)).map fun h' => (mk h.n, h')
    | none => effF S call lo r h o.op
theorem opF_ok {S : AStat} {ct : CallT} {cl : CallF} (hc : CallSim ct cl) {lo : Nat} {r : Rg} {h h' : Hp} (hr : r.Ok) (ho : h.Ok) {o : Oper} {v : AVal} (e : opF S ct lo r h o = some (v, h')) :
    h'.Ok ∧ opA S cl lo r.toL h.toL o = some (v, h'.toL) := by
  unfold opF at e
  unfold opA
  rw [← quietG_eq, ← newG_eq, ← evalF_eq S hr, ← getF_eq ho]
  split at e
  · rename_i w hw
    simp only [Option.some.injEq, Prod.mk.injEq] at e
    obtain ⟨rfl, rfl⟩ := e
    exact ⟨ho, by rw [hw]⟩
  · rename_i hw
    simp only [hw]
    split at e
    · rename_i blk mk hn
      rw [Option.map_eq_some_iff] at e
      obtain ⟨h1, h2, h3⟩ := e
      simp only [Prod.mk.injEq] at h3
      obtain ⟨rfl, rfl⟩ := h3
      obtain ⟨k1, k2⟩ := Hp.push_ok ho h2
      exact ⟨k1, by simp only [hn, k2, Hp.length_toL]⟩
    · rename_i hn
      obtain ⟨k1, k2⟩ := effF_ok hc hr ho e
      exact ⟨k1, by simp only [hn, k2]⟩

noncomputable def opsF (S : AStat) (call : CallT) (lo : Nat) (ops : List Oper) : List Oper → Rg → Hp → Option (Rg × Hp)
  | [], r, h => some (r, h)
  | o :: rest, r, h =>
    match guardF ops r o with
    | none => none
    | some false => opsF S call lo ops rest (putF r o.dst undefA) h
    | some true =>
      match opF S call lo r h o with
      | none => none
      | some (v, h') => opsF S call lo ops rest (putF r o.dst v) h'
theorem opsF_ok {S : AStat} {ct : CallT} {cl : CallF} (hc : CallSim ct cl) {lo : Nat} {ops : List Oper} : ∀ {l : List Oper} {r r' : Rg} {h h' : Hp}, r.Ok → h.Ok → opsF S ct lo ops l r h = some (r', h') →
    r'.Ok ∧ h'.Ok ∧ opsA S cl lo ops l r.toL h.toL = some (r'.toL, h'.toL)
  | [], r, r', h, h', hr, ho, e => by
    simp only [opsF, Option.some.injEq, Prod.mk.injEq] at e
    obtain ⟨rfl, rfl⟩ := e
    exact ⟨hr, ho, rfl⟩
  | o :: l, r, r', h, h', hr, ho, e => by
    simp only [opsF, guardF_eq hr] at e
    simp only [opsA]
    split at e
    · cases e
    · rename_i hg
      obtain ⟨k1, k2⟩ := putF_ok hr o.dst undefA
      simp only [hg]
      rw [← k2]
      exact opsF_ok hc k1 ho e
    · rename_i hg
      simp only [hg]
      split at e
      · cases e
      · rename_i v h1 hop
        obtain ⟨m1, m2⟩ := opF_ok hc hr ho hop
        obtain ⟨k1, k2⟩ := putF_ok hr o.dst v
        simp only [m2]
        rw [← k2]
        exact opsF_ok hc k1 m1 e

noncomputable def hideF (h : Hp) : List Nat → Hp
  | [] => h
  | b :: bs => hideF (h.set b none) bs
noncomputable def unhideF (h0 h : Hp) : List Nat → Hp
  | [] => h
  | b :: bs => unhideF h0 (h.set b ((h0.get b).getD none)) bs
theorem hideF_ok : ∀ (bs : List Nat) {h : Hp}, h.Ok → (hideF h bs).Ok ∧ (hideF h bs).toL = hide h.toL bs
  | [], _, ho => ⟨ho, rfl⟩
  | b :: bs, h, ho => by
    have := hideF_ok bs (Hp.set_ok ho b none)
    rw [Hp.set_toL ho] at this
    exact this
theorem unhideF_ok {h0 : Hp} (h0o : h0.Ok) : ∀ (bs : List Nat) {h : Hp}, h.Ok → (unhideF h0 h bs).Ok ∧ (unhideF h0 h bs).toL = unhide h0.toL h.toL bs
  | [], _, ho => ⟨ho, rfl⟩
  | b :: bs, h, ho => by
    have := unhideF_ok h0o bs (Hp.set_ok ho b ((h0.get b).getD none))
    rw [Hp.set_toL ho] at this
    refine ⟨this.1, ?_⟩
    show (unhideF h0 (h.set b ((h0.get b).getD none)) bs).toL = unhide h0.toL (h.toL.set b (h0.toL.getD b none)) bs
    rw [this.2, List.getD_eq_getElem?_getD, Hp.get_toL h0o]

structure DrawOutF where
  reads : List (Nat × Nat)
  touches : List (Nat × Option (List Nat))
  r : Rg
  h : Hp

noncomputable def drawGoF (S : AStat) (call : CallT) (lo n0 : Nat) (ops : Array Oper) (B : List Nat) : List Oper → Nat → Rg → Hp → Option DrawOutF
  | [], _, r, h => some ⟨[], [], r, h⟩
  | o :: rest, k, r, h =>
    match guardF ops.toList r o with
    | none => none
    | some false => drawGoF S call lo n0 ops B rest (k + 1) (putF r o.dst undefA) h
    | some true =>
      if isNewB o.op then
        match newG S (evalF S r) o.op with
        | none => none
        | some (blk, mk) =>
          match h.get (n0 + k) with
          | some none => drawGoF S call lo n0 ops B rest (k + 1) (putF r o.dst (mk (n0 + k))) (h.set (n0 + k) (some blk))
          | _ => none
      else if isEffB o.op then
        match effF S call lo r (hideF h (hidden ops B n0 k)) o.op with
        | none => none
        | some (v, h') =>
          if h.n ≤ h'.n then
            match drawGoF S call lo n0 ops B rest (k + 1) (putF r o.dst v) (unhideF h h' (hidden ops B n0 k)) with
            | none => none
            | some x => some { x with touches := (k, touchG S (evalF S r) o.op) :: x.touches }
          else none
      else
        match quietG S (evalF S r) h.get o.op with
        | none => none
        | some v =>
          match drawGoF S call lo n0 ops B rest (k + 1) (putF r o.dst v) h with
          | none => none
          | some x =>
            match readsG (evalF S r) o.op with
            | none => some x
            | some b => some { x with reads := (k, b) :: x.reads }

def DrawOutF.Ok (x : DrawOutF) : Prop := x.r.Ok ∧ x.h.Ok
noncomputable def DrawOutF.toL (x : DrawOutF) : DrawOut := ⟨x.reads, x.touches, x.r.toL, x.h.toL⟩

theorem drawGoF_ok {S : AStat} {ct : CallT} {cl : CallF} (hc : CallSim ct cl) {lo n0 : Nat} {ops : Array Oper} {B : List Nat} : ∀ {l : List Oper} {k : Nat} {r : Rg} {h : Hp} {x : DrawOutF}, r.Ok → h.Ok → drawGoF S ct lo n0 ops B l k r h = some x →
    x.Ok ∧ drawGo S cl lo n0 ops B l k r.toL h.toL = some x.toL
  | [], k, r, h, x, hr, ho, e => by
    simp only [drawGoF, Option.some.injEq] at e
    subst e
    exact ⟨⟨hr, ho⟩, rfl⟩
  | o :: l, k, r, h, x, hr, ho, e => by
    simp only [drawGoF, guardF_eq hr] at e
    simp only [drawGo]
    split at e
    · cases e
    · rename_i hg
      obtain ⟨k1, k2⟩ := putF_ok hr o.dst undefA
      simp only [hg]
      rw [← k2]
      exact drawGoF_ok hc k1 ho e
    · rename_i hg
      simp only [hg]
      split at e
      · rename_i hn
        rw [if_pos hn]
        split at e
        · cases e
        · rename_i blk mk hnew
          rw [evalF_eq S hr, newG_eq] at hnew
          simp only [hnew]
          rw [Hp.get_toL ho]
          split at e
          · rename_i hh
            simp only [hh]
            obtain ⟨k1, k2⟩ := putF_ok hr o.dst (mk (n0 + k))
            rw [← k2, ← Hp.set_toL ho]
            exact drawGoF_ok hc k1 (Hp.set_ok ho _ _) e
          · cases e
      · rename_i hn
        rw [if_neg hn]
        split at e
        · rename_i he
          rw [if_pos he]
          split at e
          · cases e
          · rename_i v h1 heff
            obtain ⟨g1, g2⟩ := hideF_ok (hidden ops B n0 k) ho
            obtain ⟨g3, g4⟩ := effF_ok hc hr g1 heff
            rw [g2] at g4
            simp only [g4]
            split at e
            · rename_i hle
              rw [if_pos (by rw [Hp.length_toL, Hp.length_toL]; exact hle)]
              split at e
              · cases e
              · rename_i x1 hx1
                simp only [Option.some.injEq] at e
                subst e
                obtain ⟨g5, g6⟩ := unhideF_ok ho (hidden ops B n0 k) g3
                obtain ⟨k1, k2⟩ := putF_ok hr o.dst v
                obtain ⟨g7, g8⟩ := drawGoF_ok hc k1 g5 hx1
                rw [k2, g6] at g8
                refine ⟨g7, ?_⟩
                simp only [g8, DrawOutF.toL]
                rw [evalF_eq S hr, touchG_eq]
            · cases e
        · rename_i he
          rw [if_neg he]
          split at e
          · cases e
          · rename_i v hq
            rw [evalF_eq S hr, getF_eq ho, quietG_eq] at hq
            simp only [hq]
            split at e
            · cases e
            · rename_i x1 hx1
              obtain ⟨k1, k2⟩ := putF_ok hr o.dst v
              obtain ⟨g7, g8⟩ := drawGoF_ok hc k1 ho hx1
              rw [k2] at g8
              simp only [g8]
              rw [evalF_eq S hr, readsG_eq] at e
              split at e
              · rename_i hrd
                simp only [Option.some.injEq] at e
                subst e
                exact ⟨g7, by simp only [hrd]⟩
              · rename_i b hrd
                simp only [Option.some.injEq] at e
                subst e
                exact ⟨g7, by simp only [hrd, DrawOutF.toL]⟩

noncomputable def drawF (S : AStat) (call : CallT) (lo : Nat) (ops : Array Oper) (r : Rg) (h : Hp) : Option (Rg × Hp) :=
  let B := befs ops.toList []
  if regionOk ops B && decide (lo ≤ h.n) then
    match (if ops.any (fun o => isNewB o.op) then h.more ops.size else some h) with
    | none => none
    | some h1 =>
      match drawGoF S call lo h.n ops B ops.toList 0 r h1 with
      | none => none
      | some x => if apartB B x.reads x.touches then some (x.r, x.h) else none
  else none
theorem drawF_ok {S : AStat} {ct : CallT} {cl : CallF} (hc : CallSim ct cl) {lo : Nat} {ops : Array Oper} {r r' : Rg} {h h' : Hp} (hr : r.Ok) (ho : h.Ok) (e : drawF S ct lo ops r h = some (r', h')) :
    r'.Ok ∧ h'.Ok ∧ drawA S cl lo ops r.toL h.toL = some (r'.toL, h'.toL) := by
  unfold drawF at e
  unfold drawA
  simp only at e ⊢
  split at e
  · rename_i hcond
    rw [Hp.length_toL, if_pos hcond]
    split at e
    · cases e
    · rename_i h1 hh1
      have key : h1.Ok ∧ h1.toL = (if ops.any (fun o => isNewB o.op) then h.toL ++ List.replicate ops.size none else h.toL) := by
        split at hh1
        · rename_i ha
          rw [if_pos ha]
          exact Hp.more_ok ho hh1
        · rename_i ha
          rw [if_neg ha]
          simp only [Option.some.injEq] at hh1
          subst hh1
          exact ⟨ho, rfl⟩
      rw [← key.2]
      split at e
      · cases e
      · rename_i x hx
        obtain ⟨⟨k1, k2⟩, k3⟩ := drawGoF_ok hc hr key.1 hx
        simp only [k3]
        split at e
        · rename_i ha
          simp only [Option.some.injEq, Prod.mk.injEq] at e
          obtain ⟨rfl, rfl⟩ := e
          exact ⟨k1, k2, if_pos ha⟩
        · cases e
  · cases e

def frzG (n0 : Nat) (hg : HGet) : Bool → Nat → AVal → Option AVal
  | _, 0, _ => none
  | top, k + 1, a =>
    match a with
    | .agg cs => (frzs (frzG n0 hg top k) cs).map .agg
    | .tup cs => (frzs (frzG n0 hg top k) cs).map .tup
    | .iface t v => (frzG n0 hg top k v).map (.iface t)
    | .fn f x y => match frzs (frzG n0 hg top k) x, frzs (frzG n0 hg top k) y with
      | some x', some y' => some (.fn f x' y')
      | _, _ => none
    | .ptr b off =>
      if b < n0 then (if top then some (.ptr b off) else none) else
      match hg b with
      | some (some (.cells cs)) => (frzs (frzG n0 hg false k) (cs.drop off)).map .ipt
      | _ => none
    | .sl sz b off len cap ex =>
      if b < n0 then (if top then some (.sl sz b off len cap ex) else none) else
      match hg b with
      | some (some (.cells cs)) =>
        if off + len * sz ≤ cs.length then (frzss (frzG n0 hg false k) (chunk sz len (cs.drop off))).map fun rows => .list sz rows (ex && cap == len) else none
      | _ => none
    | .mapr b => if b < n0 ∧ top then some (.mapr b) else none
    | a => some a

theorem frzG_eq (n0 : Nat) (H : Heap) : ∀ (k : Nat) (top : Bool), frzG n0 (fun b => H[b]?) top k = frz n0 H top k
  | 0, top => by funext a; simp only [frzG, frz]
  | k + 1, top => by
    funext a
    cases a <;> simp only [frzG, frz, frzG_eq n0 H k top, frzG_eq n0 H k false] <;> rfl

def resultG (S : AStat) (ev : Nat → AVal) (hg : HGet) : ResultVar → Option AVal
  | .tmp t => some (ev t)
  | .cell a t => loadG S.P t hg (ev a)
def resultsG (S : AStat) (ev : Nat → AVal) (hg : HGet) : List ResultVar → Option (List AVal)
  | [] => some []
  | r :: rs =>
    match resultG S ev hg r with
    | none => none
    | some v => match resultsG S ev hg rs with
      | none => none
      | some vs => some (v :: vs)
theorem resultsG_eq (S : AStat) {r : Rg} (hr : r.Ok) {h : Hp} (ho : h.Ok) : ∀ l, resultsG S r.get h.get l = resultsA S r.toL h.toL l
  | [] => rfl
  | x :: xs => by
    have : resultG S r.get h.get x = resultA S r.toL h.toL x := by
      cases x with
      | tmp t => simp only [resultG, resultA, Rg.get_toL hr]
      | cell a t => simp only [resultG, resultA, Rg.get_toL hr, getF_eq ho, loadG, loadA, atG_eq]
    simp only [resultsG, resultsA, this, resultsG_eq S hr ho xs]
    rfl

def Pol.loN (p : Pol) (lo n : Nat) : Nat :=
  match p with
  | .keep => lo
  | .pure => n
  | .fresh => max lo n

noncomputable def finishF (p : Pol) (h0 : Hp) (v : AVal) (h : Hp) : Option (AVal × Hp) :=
  match p with
  | .keep => some (v, h)
  | .pure => (frzG h0.n h.get true 64 v).map fun v' => (v', h0)
  | .fresh => some (v, h)

theorem finishF_ok {p : Pol} {h0 h h' : Hp} {v r : AVal} (ho0 : h0.Ok) (ho : h.Ok) (e : finishF p h0 v h = some (r, h')) : h'.Ok ∧ finish p h0.toL v h.toL = some (r, h'.toL) := by
  cases p with
  | keep =>
    simp only [finishF, Option.some.injEq, Prod.mk.injEq] at e
    obtain ⟨rfl, rfl⟩ := e
    exact ⟨ho, rfl⟩
  | pure =>
    simp only [finishF] at e
    rw [Option.map_eq_some_iff] at e
    obtain ⟨v, e1, e2⟩ := e
    simp only [Prod.mk.injEq] at e2
    obtain ⟨rfl, rfl⟩ := e2
    rw [getF_eq ho, frzG_eq, ← Hp.length_toL] at e1
    exact ⟨ho0, by simp only [finish, e1, Option.map_some]⟩
  | fresh =>
    simp only [finishF, Option.some.injEq, Prod.mk.injEq] at e
    obtain ⟨rfl, rfl⟩ := e
    exact ⟨ho, rfl⟩

abbrev HookT := Nat → List AVal → Hp → Option (AVal × Hp)

noncomputable def callF (S : AStat) (HT : FuncId → Option HookT) (rec : ExecT) : CallT := fun lo f args h =>
  match HT f with
  | some hk => hk lo args h
  | none =>
    match S.P.funcs[f]? with
    | none => none
    | some fn =>
      match fn.body with
      | none => none
      | some body =>
        bif Nat.ble args.length fn.ntmps && Nat.ble fn.ntmps 512 then
          match rec ((S.pol f).loN lo h.n) body (Rg.frame args fn.ntmps) h with
          | none => none
          | some (.exit _, _, _) => none
          | some (_, r, h') =>
            match resultsG S r.get h'.get fn.results.toList with
            | none => none
            | some vs => finishF (S.pol f) h (tupled vs) h'
        else none

/-- Hooks over trees, and over lists. -/
def HookSim (S : AStat) (HT : FuncId → Option HookT) : Prop := ∀ f, match HT f, S.hook f with
  | none, none => True
  | some t, some l => ∀ lo args h r h', h.Ok → t lo args h = some (r, h') → h'.Ok ∧ l lo args h.toL = some (r, h'.toL)
  | _, _ => False

theorem callF_ok {S : AStat} {HT : FuncId → Option HookT} (hH : HookSim S HT) {rt : ExecT} {rl : ExecF} (hs : ExecSim rt rl) : CallSim (callF S HT rt) (callA S rl) := by
  intro lo f args h r h' ho e
  unfold callF at e
  unfold callA
  have hf := hH f
  split at e
  · rename_i hk hhk
    rw [hhk] at hf
    cases hl : S.hook f with
    | none => rw [hl] at hf; exact hf.elim
    | some l =>
      rw [hl] at hf
      exact hf lo args h r h' ho e
  · rename_i hhk
    rw [hhk] at hf
    cases hl : S.hook f with
    | some l => rw [hl] at hf; exact hf.elim
    | none =>
      simp only
      split at e
      · cases e
      · rename_i fn hfn
        simp only [hfn]
        split at e
        · cases e
        · rename_i body hb
          simp only [hb]
          cases hcond : (Nat.ble args.length fn.ntmps && Nat.ble fn.ntmps 512) with
          | false => rw [hcond] at e; cases e
          | true =>
            rw [hcond] at e
            simp only [cond_true] at e
            simp only [Bool.and_eq_true, Nat.ble_eq] at hcond
            split at e
            · cases e
            · cases e
            · rename_i x r1 h1 hne hrec
              obtain ⟨k1, k2, k3⟩ := hs _ _ _ _ _ _ _ (frame_ok args fn.ntmps hcond.2) ho hrec
              rw [frame_toL args fn.ntmps hcond.2 hcond.1] at k3
              have hlo : (S.pol f).loN lo h.n = (S.pol f).lo lo h.toL := by
                cases S.pol f <;> simp only [Pol.loN, Pol.lo, Hp.length_toL]
              rw [hlo] at k3
              simp only [k3]
              rw [resultsG_eq S k1 k2] at e
              cases x with
              | exit i => exact (hne i rfl).elim
              | normal =>
                split at e
                · cases e
                · rename_i vs hvs
                  simp only [hvs]
                  exact finishF_ok ho k2 e
              | ret =>
                split at e
                · cases e
                · rename_i vs hvs
                  simp only [hvs]
                  exact finishF_ok ho k2 e

noncomputable def stSeq (rec : ExecT) (lo : Nat) (a b : Code) (r : Rg) (h : Hp) : Option (AExit × Rg × Hp) :=
  match rec lo a r h with
  | some (.normal, r', h') => rec lo b r' h'
  | x => x
noncomputable def stCond (S : AStat) (rec : ExecT) (lo : Nat) (x : Operand) (a b : Code) (r : Rg) (h : Hp) : Option (AExit × Rg × Hp) :=
  match evalF S r x with
  | .bool true => rec lo a r h
  | .bool false => rec lo b r h
  | _ => none
noncomputable def stBlock (rec : ExecT) (lo id : Nat) (b : Code) (r : Rg) (h : Hp) : Option (AExit × Rg × Hp) :=
  match rec lo b r h with
  | some (.exit i, r', h') => if i = id then some (.normal, r', h') else some (.exit i, r', h')
  | x => x
noncomputable def stLoop (rec : ExecT) (lo : Nat) (b : Code) (r : Rg) (h : Hp) : Option (AExit × Rg × Hp) :=
  match rec lo b r h with
  | some (.normal, r', h') => rec lo (.loop b) r' h'
  | x => x
noncomputable def stRegion (S : AStat) (HT : FuncId → Option HookT) (rec : ExecT) (lo : Nat) (ops : Array Oper) (draw : Bool) (r : Rg) (h : Hp) : Option (AExit × Rg × Hp) :=
  if draw then (drawF S (callF S HT rec) lo ops r h).map fun x => (.normal, x.1, x.2)
  else (opsF S (callF S HT rec) lo ops.toList ops.toList r h).map fun x => (.normal, x.1, x.2)
noncomputable def stepF (S : AStat) (HT : FuncId → Option HookT) (rec : ExecT) : ExecT := fun lo c r h =>
  match c with
  | .skip => some (.normal, r, h)
  | .label _ => some (.normal, r, h)
  | .ret => some (.ret, r, h)
  | .exit id => some (.exit id, r, h)
  | .seq a b => stSeq rec lo a b r h
  | .cond x a b => stCond S rec lo x a b r h
  | .block id b => stBlock rec lo id b r h
  | .loop b => stLoop rec lo b r h
  | .region _ ops draw => stRegion S HT rec lo ops draw r h
  | _ => none

theorem stepF_ok {S : AStat} {HT : FuncId → Option HookT} (hH : HookSim S HT) {rt : ExecT} {rl : ExecF} (hs : ExecSim rt rl) : ExecSim (stepF S HT rt) (stepA S rl) := by
  intro lo c r h x r' h' hr ho e
  have triv : ∀ {y : AExit}, some (y, r, h) = some (x, r', h') → r'.Ok ∧ h'.Ok ∧ (some (y, r.toL, h.toL) : Option (AExit × List AVal × Heap)) = some (x, r'.toL, h'.toL) := by
    intro y hy
    simp only [Option.some.injEq, Prod.mk.injEq] at hy
    obtain ⟨rfl, rfl, rfl⟩ := hy
    exact ⟨hr, ho, rfl⟩
  unfold stepF at e
  unfold stepA
  split at e
  · exact triv e
  · exact triv e
  · exact triv e
  · exact triv e
  · rename_i a b
    unfold stSeq at e
    simp only
    split at e
    · rename_i r1 h1 e1
      obtain ⟨k1, k2, k3⟩ := hs _ _ _ _ _ _ _ hr ho e1
      simp only [k3]
      exact hs _ _ _ _ _ _ _ k1 k2 e
    · rename_i hne
      obtain ⟨k1, k2, k3⟩ := hs _ _ _ _ _ _ _ hr ho e
      refine ⟨k1, k2, ?_⟩
      simp only [k3]
      cases x with
      | normal => exact (hne _ _ e).elim
      | _ => rfl
  · rename_i y a b
    unfold stCond at e
    rw [evalF_eq S hr] at e
    simp only
    split at e
    · rename_i hy
      simp only [hy]
      exact hs _ _ _ _ _ _ _ hr ho e
    · rename_i hy
      simp only [hy]
      exact hs _ _ _ _ _ _ _ hr ho e
    · cases e
  · rename_i id b
    unfold stBlock at e
    simp only
    split at e
    · rename_i i r1 h1 e1
      obtain ⟨k1, k2, k3⟩ := hs _ _ _ _ _ _ _ hr ho e1
      simp only [k3]
      split at e
      · rename_i hi
        simp only [Option.some.injEq, Prod.mk.injEq] at e
        obtain ⟨rfl, rfl, rfl⟩ := e
        exact ⟨k1, k2, by rw [if_pos hi]⟩
      · rename_i hi
        simp only [Option.some.injEq, Prod.mk.injEq] at e
        obtain ⟨rfl, rfl, rfl⟩ := e
        exact ⟨k1, k2, by rw [if_neg hi]⟩
    · rename_i hne
      obtain ⟨k1, k2, k3⟩ := hs _ _ _ _ _ _ _ hr ho e
      refine ⟨k1, k2, ?_⟩
      simp only [k3]
      cases x with
      | exit i => exact (hne _ _ _ e).elim
      | _ => rfl
  · rename_i b
    unfold stLoop at e
    simp only
    split at e
    · rename_i r1 h1 e1
      obtain ⟨k1, k2, k3⟩ := hs _ _ _ _ _ _ _ hr ho e1
      simp only [k3]
      exact hs _ _ _ _ _ _ _ k1 k2 e
    · rename_i hne
      obtain ⟨k1, k2, k3⟩ := hs _ _ _ _ _ _ _ hr ho e
      refine ⟨k1, k2, ?_⟩
      simp only [k3]
      cases x with
      | normal => exact (hne _ _ e).elim
      | _ => rfl
  · rename_i id ops draw
    unfold stRegion at e
    simp only
    split at e
    · rename_i hd
      rw [Option.map_eq_some_iff] at e
      obtain ⟨⟨r1, h1⟩, e1, e2⟩ := e
      simp only [Prod.mk.injEq] at e2
      obtain ⟨rfl, rfl, rfl⟩ := e2
      obtain ⟨k1, k2, k3⟩ := drawF_ok (callF_ok hH hs) hr ho e1
      exact ⟨k1, k2, by rw [if_pos hd, k3]; rfl⟩
    · rename_i hd
      rw [Option.map_eq_some_iff] at e
      obtain ⟨⟨r1, h1⟩, e1, e2⟩ := e
      simp only [Prod.mk.injEq] at e2
      obtain ⟨rfl, rfl, rfl⟩ := e2
      obtain ⟨k1, k2, k3⟩ := opsF_ok (callF_ok hH hs) hr ho e1
      exact ⟨k1, k2, by rw [if_neg hd, k3]; rfl⟩
  · cases e

noncomputable def execF (S : AStat) (HT : FuncId → Option HookT) (n : Nat) : ExecT := Nat.rec (fun _ _ _ _ => none) (fun _ ih => stepF S HT ih) n
theorem execF_ok {S : AStat} {HT : FuncId → Option HookT} (hH : HookSim S HT) : ∀ n, ExecSim (execF S HT n) (execA S n)
  | 0 => fun _ _ _ _ _ _ _ _ _ e => by cases e
  | n + 1 => stepF_ok hH (execF_ok hH n)

noncomputable def runF (S : AStat) (HT : FuncId → Option HookT) (n : Nat) : CallT := callF S HT (execF S HT n)
/-- A run over trees is a run over lists. -/
theorem runF_ok {S : AStat} {HT : FuncId → Option HookT} (hH : HookSim S HT) (n : Nat) {f : FuncId} {args : List AVal} {v : AVal} (e : (runF S HT n 0 f args Hp.empty).map (·.1) = some v) : ∃ H', runA S n 0 f args [] = some (v, H') := by
  rw [Option.map_eq_some_iff] at e
  obtain ⟨⟨v', h'⟩, e, rfl⟩ := e
  obtain ⟨_, k⟩ := callF_ok hH (execF_ok hH n) 0 f args Hp.empty v' h' Hp.empty_ok e
  rw [Hp.empty_toL] at k
  exact ⟨_, k⟩

end Go.Am

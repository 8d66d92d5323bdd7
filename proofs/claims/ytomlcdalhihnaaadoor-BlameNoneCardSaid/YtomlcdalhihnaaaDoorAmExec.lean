/- The idealised run of a function's code. Generic: over any program. -/
import Derived.Test.YtomlcdalhihnaaaDoorAmSim7
namespace Go.Am

inductive AExit where
  | normal
  | exit (id : Nat)
  | ret
  deriving DecidableEq, Inhabited

/-- Is an operation wanted? none: it cannot be told. -/
def guardA (ops : List Oper) (ρ : List AVal) (o : Oper) : Option Bool :=
  match o.guard with
  | none => some true
  | some (j, want) =>
    match (ops[j]?).bind (·.dst) with
    | none => some false
    | some d =>
      match ρ[d]? with
      | none => some false
      | some (.bool b) => some (b == want)
      | some .junk => none
      | some _ => some false

abbrev CallF := Nat → FuncId → List AVal → Heap → Option (AVal × Heap)

def putA (ρ : List AVal) (dst : Option Tmp) (v : AVal) : List AVal :=
  match dst with
  | some d => ρ.set d v
  | none => ρ

/-- Operations that may turn memory, and calls. -/
def effA (S : AStat) (call : CallF) (lo : Nat) (ρ : List AVal) (H : Heap) : Op → Option (AVal × Heap)
  | .store t x v => (storeA S.P lo t H (evalA S ρ x) (evalA S ρ v)).map fun H' => (undefA, H')
  | .mapUpdate t m k v => (mapUpdateA S.P lo t H (evalA S ρ m) (evalA S ρ k) (evalA S ρ v)).map fun H' => (undefA, H')
  | .insert t m k v => (mapUpdateA S.P lo t H (evalA S ρ m) (evalA S ρ k) (evalA S ρ v)).map fun H' => (undefA, H')
  | .call { callee := .builtin .append, args := args, argTypes := ts } =>
    match args.toList.map (evalA S ρ), ts.toList with
    | [s, x], [t, u] => appendA S.P lo t u H s x
    | _, _ => none
  | .call { callee := .value f, args := args, .. } =>
    match evalA S ρ f with
    | .fn (.func g) first captured =>
      match S.ext g (first ++ args.toList.map (evalA S ρ) ++ captured) with
      | some v => some (v, H)
      | none => call lo g (first ++ args.toList.map (evalA S ρ) ++ captured) H
    | _ => none
  | .call { callee := .invoke r name, args := args, .. } =>
    match evalA S ρ r with
    | .iface t v =>
      match S.meth t name, nk v with
      | some g, some (.p, _) => call lo g (v :: args.toList.map (evalA S ρ)) H
      | _, _ => match S.methV t name v with
        | some (g, v') => (S.ext g (v' :: args.toList.map (evalA S ρ))).map fun r => (r, H)
        | none => none
    | _ => none
  | _ => none

def opA (S : AStat) (call : CallF) (lo : Nat) (ρ : List AVal) (H : Heap) (o : Oper) : Option (AVal × Heap) :=
  match quietA S ρ H o.op with
  | some v => some (v, H)
  | none =>
    match newA S ρ o.op with
    | some (blk, mk) => some (mk H.length, H ++ [some blk])
    | none => effA S call lo ρ H o.op

/-- Operations in the order of the text. -/
def opsA (S : AStat) (call : CallF) (lo : Nat) (ops : List Oper) : List Oper → List AVal → Heap → Option (List AVal × Heap)
  | [], ρ, H => some (ρ, H)
  | o :: rest, ρ, H =>
    match guardA ops ρ o with
    | none => none
    | some false => opsA S call lo ops rest (putA ρ o.dst undefA) H
    | some true =>
      match opA S call lo ρ H o with
      | none => none
      | some (v, H') => opsA S call lo ops rest (putA ρ o.dst v) H'

def isNewB : Op → Bool
  | .alloc _ | .box _ _ | .buildSlice _ _ _ | .makeSlice _ _ _ | .makeMap _ none => true
  | _ => false

def isEffB : Op → Bool
  | .store _ _ _ | .mapUpdate _ _ _ _ | .insert _ _ _ _ => true
  | .call { callee := .builtin .len, .. } | .call { callee := .builtin .min, .. } | .call { callee := .builtin .max, .. } => false
  | .call _ => true
  | _ => false

def blkOf : AVal → Option Nat
  | .ptr b _ => some b
  | .mapr b => some b
  | _ => none

/-- The one block that a quiet operation looks at. -/
def readsA (S : AStat) (ρ : List AVal) : Op → Option Nat
  | .load _ x => blkOf (evalA S ρ x)
  | .lookup _ m _ _ => blkOf (evalA S ρ m)
  | .slice _ x _ _ _ => blkOf (evalA S ρ x)
  | .convert _ _ x => slBlk (evalA S ρ x)
  | .call { callee := .builtin .len, args := args, .. } =>
    match args[0]? with
    | some x => match evalA S ρ x with
      | .mapr b => some b
      | _ => none
    | none => none
  | _ => none

/-- The blocks that an operation may turn; none: it cannot be told. -/
def touchA (S : AStat) (ρ : List AVal) : Op → Option (List Nat)
  | .store _ x _ => some (blkOf (evalA S ρ x)).toList
  | .mapUpdate _ m _ _ => some (blkOf (evalA S ρ m)).toList
  | .insert _ m _ _ => some (blkOf (evalA S ρ m)).toList
  | .call { callee := .builtin .append, args := args, .. } =>
    match args[0]? with
    | some x => match evalA S ρ x with
      | .sl _ b _ _ _ _ => some [b]
      | _ => some []
    | none => none
  | .call { callee := .value f, .. } =>
    match evalA S ρ f with
    | .fn (.func g) _ _ => if (S.hook g).isNone && (S.pol g == .pure || S.pol g == .fresh) then some [] else none
    | _ => none
  | _ => none

/-- Of each operation those ahead of it, as bits. -/
def befs : List Oper → List Nat → List Nat
  | [], acc => acc
  | o :: os, acc => befs os (acc ++ [o.after.toList.foldl (fun s e => if Region.binds .any e then s ||| 2 ^ e.on ||| acc.getD e.on 0 else s) 0])

def pairOk (ops : Array Oper) (B : List Nat) (i j : Nat) : Bool :=
  (B.getD j 0).testBit i ||
  match ops[i]?, ops[j]? with
  | some x, some y => Oper.apart ops x y && !(isEffB x.op && isEffB y.op)
  | _, _ => true

def regionOk (ops : Array Oper) (B : List Nat) : Bool :=
  ((List.range ops.size).all fun j => (match ops[j]? with | some o => o.after.toList.all fun e => !Region.binds .any e || decide (e.on < j) | none => true) &&
    (List.range j).all fun i => pairOk ops B i j)

def hidden (ops : Array Oper) (B : List Nat) (n0 k : Nat) : List Nat :=
  ((List.range ops.size).filter fun j => (match ops[j]? with | some o => isNewB o.op | none => false) && !(B.getD k 0).testBit j).map (n0 + ·)

def hide (H : Heap) : List Nat → Heap
  | [] => H
  | b :: bs => hide (H.set b none) bs

def unhide (H0 H : Heap) : List Nat → Heap
  | [] => H
  | b :: bs => unhide H0 (H.set b (H0.getD b none)) bs

structure DrawOut where
  reads : List (Nat × Nat)
  touches : List (Nat × Option (List Nat))
  ρ : List AVal
  H : Heap

/-- Operations whose order is open, in the order of the text; what of their order could be seen is told. -/
def drawGo (S : AStat) (call : CallF) (lo n0 : Nat) (ops : Array Oper) (B : List Nat) : List Oper → Nat → List AVal → Heap → Option DrawOut
  | [], _, ρ, H => some ⟨[], [], ρ, H⟩
  | o :: rest, k, ρ, H =>
    match guardA ops.toList ρ o with
    | none => none
    | some false => drawGo S call lo n0 ops B rest (k + 1) (putA ρ o.dst undefA) H
    | some true =>
      if isNewB o.op then
        match newA S ρ o.op with
        | none => none
        | some (blk, mk) =>
          match H[n0 + k]? with
          | some none => drawGo S call lo n0 ops B rest (k + 1) (putA ρ o.dst (mk (n0 + k))) (H.set (n0 + k) (some blk))
          | _ => none
      else if isEffB o.op then
        match effA S call lo ρ (hide H (hidden ops B n0 k)) o.op with
        | none => none
        | some (v, H') =>
          if H.length ≤ H'.length then
            match drawGo S call lo n0 ops B rest (k + 1) (putA ρ o.dst v) (unhide H H' (hidden ops B n0 k)) with
            | none => none
            | some r => some { r with touches := (k, touchA S ρ o.op) :: r.touches }
          else none
      else
        match quietA S ρ H o.op with
        | none => none
        | some v =>
          match drawGo S call lo n0 ops B rest (k + 1) (putA ρ o.dst v) H with
          | none => none
          | some r =>
            match readsA S ρ o.op with
            | none => some r
            | some b => some { r with reads := (k, b) :: r.reads }

def apartB (B : List Nat) (reads : List (Nat × Nat)) (touches : List (Nat × Option (List Nat))) : Bool :=
  reads.all fun r => touches.all fun t => (B.getD r.1 0).testBit t.1 || (B.getD t.1 0).testBit r.1 ||
    match t.2 with
    | some l => !l.contains r.2
    | none => false

def drawA (S : AStat) (call : CallF) (lo : Nat) (ops : Array Oper) (ρ : List AVal) (H : Heap) : Option (List AVal × Heap) :=
  let B := befs ops.toList []
  if regionOk ops B && decide (lo ≤ H.length) then
    match drawGo S call lo H.length ops B ops.toList 0 ρ (if ops.any (fun o => isNewB o.op) then H ++ List.replicate ops.size none else H) with
    | none => none
    | some r => if apartB B r.reads r.touches then some (r.ρ, r.H) else none
  else none

/-- All that a value leads to, as it stands now, for all time. -/
def frzs (f : AVal → Option AVal) : List AVal → Option (List AVal)
  | [] => some []
  | a :: as => match f a with
    | none => none
    | some b => match frzs f as with
      | none => none
      | some bs => some (b :: bs)

def frzss (f : AVal → Option AVal) : List (List AVal) → Option (List (List AVal))
  | [] => some []
  | a :: as => match frzs f a with
    | none => none
    | some b => match frzss f as with
      | none => none
      | some bs => some (b :: bs)

/-- n0: numbers below stay as they are at the top, and are refused below it. -/
def frz (n0 : Nat) (H : Heap) : Bool → Nat → AVal → Option AVal
  | _, 0, _ => none
  | top, k + 1, a =>
    match a with
    | .agg cs => (frzs (frz n0 H top k) cs).map .agg
    | .tup cs => (frzs (frz n0 H top k) cs).map .tup
    | .iface t v => (frz n0 H top k v).map (.iface t)
    | .fn f x y => match frzs (frz n0 H top k) x, frzs (frz n0 H top k) y with
      | some x', some y' => some (.fn f x' y')
      | _, _ => none
    | .ptr b off =>
      if b < n0 then (if top then some (.ptr b off) else none) else
      match H[b]? with
      | some (some (.cells cs)) => (frzs (frz n0 H false k) (cs.drop off)).map .ipt
      | _ => none
    | .sl sz b off len cap ex =>
      if b < n0 then (if top then some (.sl sz b off len cap ex) else none) else
      match H[b]? with
      | some (some (.cells cs)) =>
        if off + len * sz ≤ cs.length then (frzss (frz n0 H false k) (chunk sz len (cs.drop off))).map fun rows => .list sz rows (ex && cap == len) else none
      | _ => none
    | .mapr b => if b < n0 ∧ top then some (.mapr b) else none
    | a => some a

def resultA (S : AStat) (ρ : List AVal) (H : Heap) : ResultVar → Option AVal
  | .tmp t => some (ρ.getD t undefA)
  | .cell a t => loadA S.P t H (ρ.getD a undefA)

def resultsA (S : AStat) (ρ : List AVal) (H : Heap) : List ResultVar → Option (List AVal)
  | [] => some []
  | r :: rs =>
    match resultA S ρ H r with
    | none => none
    | some v => match resultsA S ρ H rs with
      | none => none
      | some vs => some (v :: vs)

def tupled : List AVal → AVal
  | [v] => v
  | vs => .tup vs

/-- How a call ends: by the function's own way. -/
def finish (p : Pol) (H0 : Heap) (v : AVal) (H : Heap) : Option (AVal × Heap) :=
  match p with
  | .keep => some (v, H)
  | .pure => (frz H0.length H true 64 v).map fun v' => (v', H0)
  | .fresh => some (v, H)

/-- Below what a call may write nothing. -/
def Pol.lo (p : Pol) (lo : Nat) (H : Heap) : Nat :=
  match p with
  | .keep => lo
  | .pure => H.length
  | .fresh => max lo H.length

abbrev ExecF := Nat → Code → List AVal → Heap → Option (AExit × List AVal × Heap)

def callA (S : AStat) (rec : ExecF) : CallF := fun lo f args H =>
  match S.hook f with
  | some hk => hk lo args H
  | none =>
    match S.P.funcs[f]? with
    | none => none
    | some fn =>
      match fn.body with
      | none => none
      | some body =>
        match rec ((S.pol f).lo lo H) body (args ++ List.replicate (fn.ntmps - args.length) undefA) H with
        | none => none
        | some (.exit _, _, _) => none
        | some (_, ρ, H') =>
          match resultsA S ρ H' fn.results.toList with
          | none => none
          | some vs => finish (S.pol f) H (tupled vs) H'

def stepA (S : AStat) (rec : ExecF) : ExecF := fun lo c ρ H =>
  match c with
  | .skip => some (.normal, ρ, H)
  | .label _ => some (.normal, ρ, H)
  | .ret => some (.ret, ρ, H)
  | .exit id => some (.exit id, ρ, H)
  | .seq a b =>
    match rec lo a ρ H with
    | some (.normal, ρ', H') => rec lo b ρ' H'
    | r => r
  | .cond x a b =>
    match evalA S ρ x with
    | .bool true => rec lo a ρ H
    | .bool false => rec lo b ρ H
    | _ => none
  | .block id b =>
    match rec lo b ρ H with
    | some (.exit i, ρ', H') => if i = id then some (.normal, ρ', H') else some (.exit i, ρ', H')
    | r => r
  | .loop b =>
    match rec lo b ρ H with
    | some (.normal, ρ', H') => rec lo (.loop b) ρ' H'
    | r => r
  | .region _ ops draw =>
    if draw then (drawA S (callA S rec) lo ops ρ H).map fun r => (.normal, r.1, r.2)
    else (opsA S (callA S rec) lo ops.toList ops.toList ρ H).map fun r => (.normal, r.1, r.2)
  | _ => none

def execA (S : AStat) : Nat → ExecF
  | 0 => fun _ _ _ _ => none
  | n + 1 => stepA S (execA S n)

def runA (S : AStat) (n : Nat) : CallF := callA S (execA S n)

end Go.Am

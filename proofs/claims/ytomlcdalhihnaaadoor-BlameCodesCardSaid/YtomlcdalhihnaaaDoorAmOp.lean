/- What each operation does in an idealised run. Generic: over any program. -/
import Derived.Test.YtomlcdalhihnaaaDoorAmRel
namespace Go.Am

def leafA : Value → AVal
  | .bool b => .bool b
  | .int k n => .int k n
  | .string s => .str s.data.toList
  | .pointer none => .nilp
  | .slice none 0 0 => .nils
  | .map none => .nilm
  | .nilFunc => .nilf
  | .nilIface => .nili
  | .iface t v => .iface t (leafA v)
  | .func f first captured => if first.isEmpty && captured.isEmpty then .fn f [] [] else .junk
  | _ => .junk

def constA : Value → AVal
  | .agg cs => .agg (cs.toList.map leafA)
  | v => leafA v

def AVal.cells : AVal → List AVal
  | .agg cs => cs
  | v => [v]

/-- May it stand in one cell? -/
def AVal.one : AVal → Bool
  | .agg _ | .tup _ | .junk => false
  | _ => true

/-- A place that nothing was put into yet. -/
def undefA : AVal := .tup []

inductive Pol where
  | keep | pure | fresh
  deriving DecidableEq, Inhabited

structure AStat where
  P : Program
  glob : Nat → Option (List AVal)
  pol : FuncId → Pol
  hook : FuncId → Option (Nat → List AVal → Heap → Option (AVal × Heap))
  meth : TypeId → String → Option FuncId
  /-- Methods at values that are no pointers: the function, and what it is handed. -/
  methV : TypeId → String → AVal → Option (FuncId × AVal) := fun _ _ _ => none
  methVOk : ∀ t name a g b, methV t name a = some (g, b) → ∀ (c : Cx) (u : Value), V c a u → ∃ u', (method (P.types.size + Made.depth) t u name).run P c.w = .ok (g, u') c.w ∧ V c b u' := by intro t name a g b h; cases h
  /-- Functions without a body that leave all as it is. -/
  ext : FuncId → List AVal → Option AVal := fun _ _ => none
  extOk : ∀ f as r, ext f as = some r → ∀ (c : Cx) (vs : List Value), Vs c as vs → ∃ u, (callFunc f vs.toArray).run P c.w = .ok (.value u) c.w ∧ V c r u := by intro f as r h; cases h

variable (P : Program)

def szOf (t : TypeId) : Nat := P.cellsOf t
def aggB (t : TypeId) : Bool :=
  match P.underlying t with
  | some (.struct _) | some (.array _ _) => true
  | _ => false

def zeroA (t : TypeId) : Option AVal := ((P.info? t).bind (·.zero)).map constA

/-- A variable of type t out of cells. -/
def partA (t : TypeId) (cs : List AVal) (off : Nat) : Option AVal :=
  match P.underlying t with
  | some (.struct _) | some (.array _ _) =>
    if off + szOf P t ≤ cs.length then some (.agg ((cs.drop off).take (szOf P t))) else none
  | some _ => cs[off]?
  | none => none

def intBin (op : BinOp) (k : IntKind) (x y : Int) : Option AVal :=
  match op with
  | .add => some (.int k (k.wrap (x + y)))
  | .sub => some (.int k (k.wrap (x - y)))
  | .mul => some (.int k (k.wrap (x * y)))
  | .quo => if y = 0 then none else some (.int k (k.wrap (x.tdiv y)))
  | .rem => if y = 0 then none else some (.int k (x.tmod y))
  | .and => some (.int k (k.wrap ((BitVec.ofInt k.bits x &&& BitVec.ofInt k.bits y).toNat)))
  | .or => some (.int k (k.wrap ((BitVec.ofInt k.bits x ||| BitVec.ofInt k.bits y).toNat)))
  | .xor => some (.int k (k.wrap ((BitVec.ofInt k.bits x ^^^ BitVec.ofInt k.bits y).toNat)))
  | .andNot => some (.int k (k.wrap ((BitVec.ofInt k.bits x &&& ~~~(BitVec.ofInt k.bits y)).toNat)))
  | .eql => some (.bool (x == y))
  | .neq => some (.bool (x != y))
  | .lss => some (.bool (decide (x < y)))
  | .leq => some (.bool (decide (x ≤ y)))
  | .gtr => some (.bool (decide (x > y)))
  | .geq => some (.bool (decide (x ≥ y)))
  | _ => none

def shiftA (op : BinOp) (k : IntKind) (x y : Int) : Option AVal :=
  if y < 0 then none else
  match op with
  | .shl => some (.int k (k.wrap (x * 2 ^ (min y.toNat k.bits))))
  | .shr => some (.int k (x.fdiv (2 ^ (min y.toNat k.bits))))
  | _ => none

def strBin (op : BinOp) (x y : List UInt8) : Option AVal :=
  match op with
  | .add => if ((x.length + y.length : Nat) : Int) > IntKind.i64.max then none else some (.str (x ++ y))
  | .eql => some (.bool (x == y))
  | .neq => some (.bool (!(x == y)))
  | .lss => some (.bool (Op.bytesLess x y))
  | .leq => some (.bool (Op.bytesLess x y || x == y))
  | .gtr => some (.bool (!(Op.bytesLess x y || x == y)))
  | .geq => some (.bool (!(Op.bytesLess x y)))
  | _ => none

inductive NK where
  | p | i | s | f | m
  deriving DecidableEq

/-- Which kind of value that may be nil, and whether it is. -/
def nk : AVal → Option (NK × Bool)
  | .nilp => some (.p, true)
  | .ptr _ _ => some (.p, false)
  | .ipt _ => some (.p, false)
  | .eptr _ _ => some (.p, false)
  | .nili => some (.i, true)
  | .iface _ _ => some (.i, false)
  | .nils => some (.s, true)
  | .list _ _ _ => some (.s, false)
  | .sl _ _ _ _ _ _ => some (.s, false)
  | .nilf => some (.f, true)
  | .fn _ _ _ => some (.f, false)
  | .nilm => some (.m, true)
  | .mapr _ => some (.m, false)
  | _ => none

def nkOk (t : TypeId) : NK → Bool
  | .p => match P.underlying t with | some (.pointer _) => true | _ => false
  | .i => match P.underlying t with | some (.interface _) => true | _ => false
  | .s => match P.underlying t with | some (.slice _) => true | _ => false
  | .f => match P.underlying t with | some (.func _ _ _) => true | _ => false
  | .m => match P.underlying t with | some (.map _ _) => true | _ => false

def boolB (t : TypeId) : Bool := match P.underlying t with | some .bool => true | _ => false

/-- Two interface values that point: of other types, or at one and the same place, or at two places that are known to be two. -/
def eqIface (t : TypeId) : AVal → AVal → Option Bool
  | .iface u x, .iface v y =>
    match P.underlying t with
    | some (.interface _) =>
      if u ≠ v then some false else
      match P.underlying u, x, y with
      | some (.pointer e), .eptr i _, .eptr j _ =>
        match P.info? u, P.info? e with
        | some iu, some ie => if iu.comparable = true ∧ ie.size ≠ 0 then some (i == j) else none
        | _, _ => none
      | _, _, _ => none
    | _ => none
  | _, _ => none

def eqFs (f : TypeId → AVal → AVal → Option Bool) (xs ys : List AVal) : List Field → Option Bool
  | [] => some true
  | fd :: fs =>
    if fd.name == "_" then none else
    match partA P fd.type xs fd.offset, partA P fd.type ys fd.offset with
    | some a, some b => match f fd.type a b, eqFs f xs ys fs with
      | some r, some r' => some (r && r')
      | _, _ => none
    | _, _ => none

def eqIs (f : AVal → AVal → Option Bool) (e : TypeId) (xs ys : List AVal) : List Nat → Option Bool
  | [] => some true
  | i :: is =>
    match partA P e xs (i * szOf P e), partA P e ys (i * szOf P e) with
    | some a, some b => match f a b, eqIs f e xs ys is with
      | some r, some r' => some (r && r')
      | _, _ => none
    | _, _ => none

/-- Equality of what is laid flat: numbers, truths, strings, structs and arrays of them. -/
def eqV : Nat → TypeId → AVal → AVal → Option Bool
  | 0, _, _, _ => none
  | d + 1, t, x, y =>
    match P.underlying t with
    | some .bool => match x, y with
      | .bool a, .bool b => some (a == b)
      | _, _ => none
    | some (.int _) => match x, y with
      | .int k a, .int k' b => if k = k' then some (a == b) else none
      | _, _ => none
    | some .string => match x, y with
      | .str a, .str b => some (a == b)
      | _, _ => none
    | some (.struct fs) => match x, y with
      | .agg xs, .agg ys => if P.stoodInHeld t then none else eqFs P (eqV d) xs ys fs.toList
      | _, _ => none
    | some (.array n e) => match x, y with
      | .agg xs, .agg ys => if (P.info? e).isSome then eqIs P (eqV d e) e xs ys (List.range n) else none
      | _, _ => none
    | _ => none

/-- Equality. -/
def eqA (t : TypeId) (lit : Bool) (x y : AVal) : Option Bool :=
  match x, y with
  | .bool a, .bool b => if boolB P t then some (a == b) else none
  | .agg xs, .agg ys => if P.eqGuardType P.depth t = false then eqV P 8 t (.agg xs) (.agg ys) else none
  | .iface u a, .iface v b => eqIface P t (.iface u a) (.iface v b)
  | x, y =>
    match nk x, nk y with
    | some (k1, n1), some (k2, n2) =>
      if k1 = k2 ∧ (n1 = true ∨ n2 = true) ∧ nkOk P t k1 = true ∧ (lit = true ∨ k1 ≠ .i ∨ n1 = false ∨ n2 = false) then some (n1 && n2) else none
    | _, _ => none

def binA (op : BinOp) (t : TypeId) (lit : Bool) (x y : AVal) : Option AVal :=
  match x, y with
  | .int k a, .int k' b =>
    match op with
    | .shl | .shr => shiftA op k a b
    | _ => if k = k' then intBin op k a b else none
  | .str a, .str b => strBin op a b
  | x, y =>
    match op with
    | .eql => (eqA P t lit x y).map .bool
    | .neq => (eqA P t lit x y).map fun b => .bool (!b)
    | _ => none

def unA (op : UnOp) (x : AVal) : Option AVal :=
  match op, x with
  | .neg, .int k n => some (.int k (k.wrap (0 - n)))
  | .xor, .int k n => some (.int k (k.wrap ((BitVec.ofInt k.bits (if k.signed then -1 else k.max) ^^^ BitVec.ofInt k.bits n).toNat)))
  | .not, .bool b => some (.bool (!b))
  | _, _ => none

def idxA : AVal → Option Nat
  | .int _ n => if 0 ≤ n then some n.toNat else none
  | _ => none

def chunk (sz : Nat) : Nat → List AVal → List (List AVal)
  | 0, _ => []
  | n + 1, cs => cs.take sz :: chunk sz n (cs.drop sz)

def fillA (place : Nat → Option (Nat × Nat)) (cells : List AVal) : List (Nat × AVal) → Option (List AVal)
  | [] => some cells
  | (i, v) :: rest =>
    match place i with
    | none => none
    | some (off, size) =>
      if v.cells.length ≠ size ∨ off + v.cells.length > cells.length ∨ !v.cells.all AVal.one then none
      else fillA place (cells.take off ++ v.cells ++ cells.drop (off + v.cells.length)) rest

/-- Cells that an address leads to. -/
def atA (H : Heap) : AVal → Option (List AVal)
  | .ipt cs => some cs
  | .eptr _ cs => some cs
  | .ptr b off => match H[b]? with
    | some (some (.cells cs)) => some (cs.drop off)
    | _ => none
  | _ => none

def loadA (t : TypeId) (H : Heap) (x : AVal) : Option AVal := (atA H x).bind fun cs => partA P t cs 0

def splice (cs : List AVal) (off : Nat) (new : List AVal) : List AVal := cs.take off ++ new ++ cs.drop (off + new.length)

def storeA (lo : Nat) (t : TypeId) (H : Heap) (x v : AVal) : Option Heap :=
  match x with
  | .ptr b off => match H[b]? with
    | some (some (.cells cs)) =>
      if lo ≤ b ∧ v.cells.length = szOf P t ∧ (P.info? t).isSome ∧ v.cells.all AVal.one ∧ off + v.cells.length ≤ cs.length then
        some (H.set b (some (.cells (splice cs off v.cells))))
      else none
    | _ => none
  | _ => none

def fieldAddrA (t : TypeId) (x : AVal) (f : Nat) : Option AVal :=
  match P.underlying t with
  | some (.struct fs) =>
    match fs[f]? with
    | some fd =>
      if (P.info? fd.type).isSome ∧ szOf P fd.type ≠ 0 then
        match x with
        | .ptr b off => some (.ptr b (off + fd.offset))
        | .ipt cs => some (.ipt (cs.drop fd.offset))
        | .eptr _ cs => some (.ipt (cs.drop fd.offset))
        | _ => none
      else none
    | none => none
  | _ => none

def fieldA (t : TypeId) (x : AVal) (f : Nat) : Option AVal :=
  match P.underlying t, x with
  | some (.struct fs), .agg cs =>
    match fs[f]? with
    | some fd => if (P.info? fd.type).isSome then partA P fd.type cs fd.offset else none
    | none => none
  | _, _ => none

def indexAddrA (t : TypeId) (x i : AVal) : Option AVal :=
  match idxA i with
  | none => none
  | some i =>
    match P.underlying t with
    | some (.array len e) =>
      if i < len ∧ (P.info? e).isSome then
        match x with
        | .ptr b off => some (.ptr b (off + i * szOf P e))
        | .ipt cs => some (.ipt (cs.drop (i * szOf P e)))
        | _ => none
      else none
    | some (.slice e) =>
      if (P.info? e).isSome then
        match x with
        | .list sz rows _ => if sz = szOf P e then (rows[i]?).map .ipt else none
        | .sl sz b off len _ _ => if sz = szOf P e ∧ i < len then some (.ptr b (off + i * sz)) else none
        | _ => none
      else none
    | _ => none

def indexA (t : TypeId) (x i : AVal) : Option AVal :=
  match idxA i with
  | none => none
  | some i =>
    match P.underlying t, x with
    | some (.array len e), .agg cs => if i < len ∧ (P.info? e).isSome then partA P e cs (i * szOf P e) else none
    | some .string, .str s => (s[i]?).map fun b => .int .u8 b.toNat
    | _, _ => none

/-- A bound of a cut. -/
def boundA (d y : Nat) : Option AVal → Option Nat
  | none => some d
  | some v => match idxA v with
    | some i => if i ≤ y then some i else none
    | none => none

def sliceA (t : TypeId) (H : Heap) (x : AVal) (lo hi mx : Option AVal) : Option AVal :=
  match P.underlying t with
  | some .string =>
    match x, mx with
    | .str s, none => (boundA s.length s.length hi).bind fun h => (boundA 0 h lo).map fun l => .str ((s.drop l).take (h - l))
    | _, _ => none
  | some (.slice e) =>
    if (P.info? e).isSome then
      match x, mx with
      | .nils, none => (boundA 0 0 hi).bind fun h => (boundA 0 h lo).map fun _ => .nils
      | .nils, some _ => none
      | .list sz rows ex, none =>
        if sz = szOf P e then
          (boundA rows.length rows.length hi).bind fun h => (boundA 0 h lo).map fun l => .list sz ((rows.drop l).take (h - l)) (ex && h == rows.length)
        else none
      | .list sz rows _, some m =>
        if sz = szOf P e ∧ hi.isSome then
          (boundA 0 rows.length (some m)).bind fun m => (boundA 0 m hi).bind fun h => (boundA 0 h lo).map fun l => .list sz ((rows.drop l).take (h - l)) (h == m)
        else none
      | .sl sz b off len cap ex, none =>
        if sz = szOf P e then
          (boundA len cap hi).bind fun h => (boundA 0 h lo).map fun l => .sl sz b (off + l * sz) (h - l) (cap - l) ex
        else none
      | .sl sz b off _ cap _, some m =>
        if sz = szOf P e ∧ hi.isSome then
          (boundA 0 cap (some m)).bind fun m => (boundA 0 m hi).bind fun h => (boundA 0 h lo).map fun l => .sl sz b (off + l * sz) (h - l) (m - l) true
        else none
      | _, _ => none
    else none
  | some (.array n e) =>
    if (P.info? e).isSome ∧ mx.isNone then
      match x with
      | .ptr b off => match H[b]? with
        | some (some (.cells cs)) =>
          if off + n * szOf P e ≤ cs.length then (boundA n n hi).bind fun h => (boundA 0 h lo).map fun l => .sl (szOf P e) b (off + l * szOf P e) (h - l) (n - l) true
          else none
        | _ => none
      | .ipt cs => if n * szOf P e ≤ cs.length then (boundA n n hi).bind fun h => (boundA 0 h lo).map fun l => .list (szOf P e) (chunk (szOf P e) (h - l) (cs.drop (l * szOf P e))) (h == n) else none
      | _ => none
    else none
  | _ => none

/-- All that a slice or string holds, as so many rows of cells. -/
def rowsA (H : Heap) (sz : Nat) : AVal → Option (List (List AVal))
  | .nils => some []
  | .list s rows _ => if s = sz then some rows else none
  | .str s => if sz = 1 then some (s.map fun b => [.int .u8 b.toNat]) else none
  | .sl s b off len _ _ => if s = sz then
      match H[b]? with
      | some (some (.cells cs)) => if off + len * sz ≤ cs.length then some (chunk sz len (cs.drop off)) else none
      | _ => none
    else none
  | _ => none

def lenA (t : TypeId) (H : Heap) (x : AVal) : Option AVal :=
  match P.underlying t, x with
  | some .string, .str s => some (.int .i64 s.length)
  | some (.array _ _), .mapr _ => none
  | some (.array n _), _ => some (.int .i64 n)
  | some (.slice _), .nils => some (.int .i64 0)
  | some (.slice _), .list _ rows _ => some (.int .i64 rows.length)
  | some (.slice _), .sl _ _ _ len _ _ => some (.int .i64 len)
  | some (.map _ _), .nilm => some (.int .i64 0)
  | some (.map _ _), .mapr b => match H[b]? with
    | some (some (.mp es)) => some (.int .i64 es.length)
    | _ => none
  | _, _ => none

/-- The element's zero is of its size. -/
def zeroFits (e : TypeId) : Bool :=
  match zeroA P e with
  | some z => z.cells.length == szOf P e && z.cells.all AVal.one
  | none => false

def notIntB (u : TypeId) : Bool :=
  match P.underlying u with
  | some (.int _) | none => false
  | _ => true

def appendA (lo : Nat) (t u : TypeId) (H : Heap) (s x : AVal) : Option (AVal × Heap) :=
  match P.underlying t with
  | some (.slice e) =>
    let sz := szOf P e
    if (P.info? e).isSome ∧ sz ≠ 0 ∧ notIntB P u = true ∧ zeroFits P e = true ∧ P.bytesOf e ≠ 0 then
      match rowsA H sz x with
      | none => none
      | some rows =>
        let new := rows.flatten
        let n := rows.length
        if !(new.all AVal.one) then none else
        match s with
        | .nils =>
          if n = 0 then some (.nils, H)
          else if n * P.bytesOf e ≤ 140737488355328 then some (.sl sz H.length 0 n n false, H ++ [some (.cells new)])
          else none
        | .list s0 rs ex =>
          if s0 ≠ sz then none else
          if n = 0 then some (.list s0 rs ex, H)
          else if ex ∧ (rs.flatten).all AVal.one ∧ (rs.length + n) * P.bytesOf e ≤ 140737488355328 then some (.sl sz H.length 0 (rs.length + n) (rs.length + n) false, H ++ [some (.cells (rs.flatten ++ new))])
          else none
        | .sl s0 b off len cap ex =>
          if s0 ≠ sz then none else
          match H[b]? with
          | some (some (.cells cs)) =>
            if off + len * sz ≤ cs.length then
              if len + n ≤ cap then
                if lo ≤ b ∧ off + (len + n) * sz ≤ cs.length then some (.sl sz b off (len + n) cap ex, H.set b (some (.cells (splice cs (off + len * sz) new))))
                else none
              else if (len + n) * P.bytesOf e ≤ 140737488355328 then
                if ex then some (.sl sz H.length 0 (len + n) (len + n) false, H ++ [some (.cells ((cs.drop off).take (len * sz) ++ new))])
                else if lo ≤ b ∧ off + len * sz = cs.length then some (.sl sz H.length 0 (len + n) (len + n) false, H.set b none ++ [some (.cells (cs.drop off ++ new))])
                else none
              else none
            else none
          | _ => none
        | _ => none
    else none
  | _ => none

/-- What makes a block: its content, and the value that leads to it, by its number. -/
def makeSliceA (t : TypeId) (l c : AVal) : Option (ABlk × (Nat → AVal)) :=
  match P.underlying t, idxA l, idxA c with
  | some (.slice e), some l, some c =>
    match zeroA P e with
    | some z =>
      if l ≤ c ∧ c * P.bytesOf e ≤ 281474976710656 ∧ c ≤ 9223372036854775807 ∧ z.cells.length = szOf P e ∧ szOf P e ≠ 0 ∧ z.cells.all AVal.one then
        some (.cells ((List.replicate c z.cells).flatten), fun id => .sl (szOf P e) id 0 l c true)
      else none
    | none => none
  | _, _, _ => none

def convA (src dst : TypeId) (x : AVal) : Option AVal :=
  match P.underlying src, P.underlying dst, x with
  | some _, some (.int k), .int _ n => some (.int k (k.wrap n))
  | some _, some .string, .str s => some (.str s)
  | _, _, _ => none

def slBlk : AVal → Option Nat
  | .sl _ b _ _ _ _ => some b
  | _ => none

def bytesOf? : List (List AVal) → Option (List UInt8)
  | [] => some []
  | [.int .u8 n] :: rs => (bytesOf? rs).map (UInt8.ofNat n.toNat :: ·)
  | _ => none

/-- A string out of a slice of bytes. -/
def strOfA (s d : TypeId) (H : Heap) (x : AVal) : Option AVal :=
  match P.underlying s, P.underlying d with
  | some (.slice e), some .string =>
    match P.underlying e, x with
    | some (.int .u8), .nils => some (.str [])
    | some (.int .u8), .list sz rows _ => if sz = 1 then (bytesOf? rows).map .str else none
    | some (.int .u8), .sl sz b off len _ _ =>
      if sz = 1 then
        match H[b]? with
        | some (some (.cells cs)) => if off + len ≤ cs.length then (bytesOf? (chunk 1 len (cs.drop off))).map .str else none
        | _ => none
      else none
    | _, _ => none
  | _, _ => none

def convHA (s d : TypeId) (H : Heap) (x : AVal) : Option AVal :=
  match convA P s d x with
  | some v => some v
  | none => strOfA P s d H x

def allocA (t : TypeId) : Option (ABlk × (Nat → AVal)) :=
  match zeroA P t with
  | some z => if z.cells.all AVal.one then some (.cells z.cells, fun id => .ptr id 0) else none
  | none => none

def boxA (x : AVal) : Option (ABlk × (Nat → AVal)) :=
  if x.cells.all AVal.one then some (.cells x.cells, fun id => .ptr id 0) else none

def buildA (t : TypeId) (parts : List (Nat × AVal)) : Option AVal :=
  match zeroA P t with
  | none => none
  | some z =>
    if !z.cells.all AVal.one then none else
    match P.underlying t with
    | some (.struct fs) =>
      if fs.all (fun f => (P.info? f.type).isSome) then (fillA (fun i => (fs[i]?).map fun f => (f.offset, szOf P f.type)) z.cells parts).map .agg else none
    | some (.array _ e) => if (P.info? e).isSome then (fillA (fun i => some (i * szOf P e, szOf P e)) z.cells parts).map .agg else none
    | _ => none

def buildSliceA (t : TypeId) (len : Nat) (parts : List (Nat × AVal)) : Option (ABlk × (Nat → AVal)) :=
  match P.underlying t with
  | some (.slice e) =>
    match zeroA P e with
    | none => none
    | some z =>
      if z.cells.length = szOf P e ∧ szOf P e ≠ 0 ∧ z.cells.all AVal.one ∧ len * szOf P e ≤ 16777216 then
        (fillA (fun i => some (i * szOf P e, szOf P e)) ((List.replicate len z.cells).flatten) parts).map fun cs => (.cells cs, fun id => .sl (szOf P e) id 0 len len false)
      else none
  | _ => none

def intsEq : List AVal → List AVal → Option Bool
  | [], [] => some true
  | .int k x :: xs, .int k' y :: ys => if k = k' then (if x = y then intsEq xs ys else some false) else none
  | _, _ => none

def intB : AVal → Bool
  | .int _ _ => true
  | _ => false

inductive KeyKind where
  | int | str | ints (n : Nat) (e : TypeId)

def keyKind (t : TypeId) : Option KeyKind :=
  match P.underlying t with
  | some (.int _) => some .int
  | some .string => some .str
  | some (.array n e) =>
    match P.underlying e with
    | some (.int _) => if szOf P e = 1 then some (.ints n e) else none
    | _ => none
  | _ => none

def keyOk : KeyKind → AVal → Bool
  | .int, .int _ _ => true
  | .str, .str _ => true
  | .ints n _, .agg cs => cs.length == n && cs.all intB
  | _, _ => false

def keyEq : KeyKind → AVal → AVal → Option Bool
  | .int, .int k x, .int k' y => if k = k' then some (x == y) else none
  | .str, .str x, .str y => some (x == y)
  | .ints n _, .agg xs, .agg ys => if xs.length = n ∧ ys.length = n then intsEq xs ys else none
  | _, _, _ => none

def findA (k : KeyKind) (x : AVal) : List (AVal × AVal) → Nat → Option (Option (Nat × AVal))
  | [], _ => some none
  | (y, v) :: es, i =>
    match keyEq k x y with
    | none => none
    | some true => some (some (i, v))
    | some false => findA k x es (i + 1)

def lookupA (t : TypeId) (H : Heap) (m x : AVal) (ok : Bool) : Option AVal :=
  match P.underlying t with
  | some (.map kt et) =>
    match keyKind P kt, zeroA P et with
    | some k, some z =>
      if keyOk k x then
        match m with
        | .nilm => some (if ok then .tup [z, .bool false] else z)
        | .mapr b =>
          match H[b]? with
          | some (some (.mp es)) =>
            match findA k x es 0 with
            | some (some (_, v)) => some (if ok then .tup [v, .bool true] else v)
            | some none => some (if ok then .tup [z, .bool false] else z)
            | none => none
          | _ => none
        | _ => none
      else none
    | _, _ => none
  | _ => none

def mapUpdateA (lo : Nat) (t : TypeId) (H : Heap) (m x v : AVal) : Option Heap :=
  match P.underlying t with
  | some (.map kt _) =>
    match keyKind P kt with
    | some k =>
      if keyOk k x then
        match m with
        | .mapr b =>
          if lo ≤ b then
            match H[b]? with
            | some (some (.mp es)) =>
              match findA k x es 0 with
              | some (some (i, _)) => some (H.set b (some (.mp (es.set i (x, v)))))
              | some none => some (H.set b (some (.mp (es ++ [(x, v)]))))
              | none => none
            | _ => none
          else none
        | _ => none
      else none
    | none => none
  | _ => none

def ifaceB (t : TypeId) : Bool :=
  match P.underlying t with
  | some (.interface _) => true
  | none => true
  | _ => false

def litB : Operand → Bool
  | .const _ => true
  | _ => false

/-- The methods of an interface that a type has not. -/
def lacksA (want : Array (String × TypeId)) (got : Array Method) : Bool :=
  want.toList.any fun m => !got.any fun n => n.name == m.1 && n.sig == m.2

def typeAssertA (x : AVal) (t : TypeId) (ok : Bool) : Option AVal :=
  match x with
  | .nili => if ok ∧ (P.underlying t).isSome then (zeroA P t).map fun z => .tup [z, .bool false] else none
  | .iface u v =>
    match P.underlying t with
    | some (.interface want) =>
      match P.info? u with
      | some i =>
        if lacksA want i.methods then (if ok then (zeroA P t).map fun z => .tup [z, .bool false] else none)
        else some (if ok then .tup [.iface u v, .bool true] else .iface u v)
      | none => none
    | some _ =>
      if u = t then some (if ok then .tup [v, .bool true] else v)
      else if ok then (zeroA P t).map fun z => .tup [z, .bool false] else none
    | none => none
  | _ => none

def evalA (S : AStat) (ρ : List AVal) : Operand → AVal
  | .tmp t => ρ.getD t undefA
  | .const v => constA v
  | .global g => match S.glob g with
    | some cs => .ipt cs
    | none => .junk
  | .func f => .fn (.func f) [] []

/-- Operations that make one block. -/
def newA (S : AStat) (ρ : List AVal) : Op → Option (ABlk × (Nat → AVal))
  | .alloc t => allocA S.P t
  | .box _ x => boxA (evalA S ρ x)
  | .buildSlice t len parts => buildSliceA S.P t len (parts.toList.map fun p => (p.1, evalA S ρ p.2))
  | .makeSlice t l c => makeSliceA S.P t (evalA S ρ l) (evalA S ρ c)
  | .makeMap _ none => some (.mp [], fun id => .mapr id)
  | _ => none

def nilCheckA : AVal → Option AVal
  | .ptr b off => some (.ptr b off)
  | .ipt cs => some (.ipt cs)
  | .eptr id cs => some (.eptr id cs)
  | .fn (.func f) a b => some (.fn (.func f) a b)
  | _ => none

/-- Operations that look at no memory, or at the one block that they name; they leave all as it is. -/
def quietA (S : AStat) (ρ : List AVal) (H : Heap) : Op → Option AVal
  | .move x | .assign x => some (evalA S ρ x)
  | .pick c a b => match evalA S ρ c with
    | .bool true => some (evalA S ρ a)
    | .bool false => some (evalA S ρ b)
    | _ => none
  | .build t parts => buildA S.P t (parts.toList.map fun p => (p.1, evalA S ρ p.2))
  | .load t x => loadA S.P t H (evalA S ρ x)
  | .nilCheck x => nilCheckA (evalA S ρ x)
  | .binOp op t x y _ => binA S.P op t (litB x || litB y) (evalA S ρ x) (evalA S ρ y)
  | .unOp op _ x => unA op (evalA S ρ x)
  | .convert s d x => convHA S.P s d H (evalA S ρ x)
  | .makeInterface t x => if ifaceB S.P t then none else some (.iface t (evalA S ρ x))
  | .makeFunc f first captured => some (.fn f (first.toList.map (evalA S ρ)) (captured.toList.map (evalA S ρ)))
  | .slice t x lo hi mx => sliceA S.P t H (evalA S ρ x) (lo.map (evalA S ρ)) (hi.map (evalA S ρ)) (mx.map (evalA S ρ))
  | .fieldAddr t x f => fieldAddrA S.P t (evalA S ρ x) f
  | .field t x f => fieldA S.P t (evalA S ρ x) f
  | .indexAddr t x i => indexAddrA S.P t (evalA S ρ x) (evalA S ρ i)
  | .index t x i => indexA S.P t (evalA S ρ x) (evalA S ρ i)
  | .lookup t m x ok => lookupA S.P t H (evalA S ρ m) (evalA S ρ x) ok
  | .extract x i => match evalA S ρ x with
    | .tup vs => vs[i]?
    | _ => none
  | .call { callee := .builtin .len, args := args, argTypes := ts } =>
    match ts[0]?, args[0]? with
    | some t, some x => lenA S.P t H (evalA S ρ x)
    | _, _ => none
  | .call { callee := .builtin .min, args := args, .. } =>
    match args.toList.map (evalA S ρ) with
    | [.int k x, .int _ y] => some (.int k (if y < x then y else x))
    | _ => none
  | .call { callee := .builtin .max, args := args, .. } =>
    match args.toList.map (evalA S ρ) with
    | [.int k x, .int _ y] => some (.int k (if x < y then y else x))
    | _ => none
  | .typeAssert x _ t ok => typeAssertA S.P (evalA S ρ x) t ok
  | _ => none

end Go.Am

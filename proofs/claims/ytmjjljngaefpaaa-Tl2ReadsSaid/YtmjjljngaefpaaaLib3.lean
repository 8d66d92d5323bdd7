/- Library, part 3: SyExec, SyHeap, SyEff, SyMp, SyEff2, SyEff3, SyEff4, SyQuiet, SyOps, SyDraw, SyDraw2, SyDraw3, SyCode, SyLe. General texts of the author of this claim: an idealised machine and a symbolic one, both proved sound over the model. -/
import Derived.Test.YtmjjljngaefpaaaLib2
set_option linter.unusedVariables false
set_option linter.unusedSimpArgs false
/- A run over symbolic values: what is owed comes out as a tree. Generic: over any program. -/
namespace Go.Sy
open Go.Am
set_option linter.unusedVariables false
variable {C : Codec}
def bndN {T : Nat → Type} (d : Nat) : Option (SV T) → Option Nat
 | none => some d
 | some (.a (.int _ (.ofNat m))) => some m
 | _ => none
def bndI {T : Nat → Type} (d : Int) : Option (SV T) → Option Int
 | none => some d
 | some v => (intOf v).map (·.2)
def litO {T : Nat → Type} : Option (SV T) → Option (Option AVal)
 | none => some none
 | some (.a v) => some (some v)
 | _ => none
def sliceS (P : Program) (wlo : Nat) (t : TypeId) (h : SH C) (x : SV C.T) (lo hi mx : Option (SV C.T)) (K : SV C.T → SH C → Tree) : Tree :=
 match x with
 | .a v => match litO lo,litO hi,litO mx with
  | some lo,some hi,some mx => opt (sliceA P t [] v lo hi mx) "slice" fun r => K (.a r) h
  | _,_,_ => match strOf x,mx,P.underlying t with
   | some s,none,some .string => match bndI 0 lo,bndI s.length hi with
    | some l,some u => .need (0 ≤ l ∧ l ≤ u ∧ u ≤ (s.length : Int)) (K (.s ((s.drop l.toNat).take (u.toNat - l.toNat))) h)
    | _,_ => .stuck "slice"
   | _,_,_ => .stuck "slice"
 | .s s => match mx,P.underlying t with
  | none,some .string => match bndI 0 lo,bndI s.length hi with
   | some l,some u => .need (0 ≤ l ∧ l ≤ u ∧ u ≤ (s.length : Int)) (K (.s ((s.drop l.toNat).take (u.toNat - l.toNat))) h)
   | _,_ => .stuck "slice"
  | _,_ => .stuck "slice"
 | .tl n l => match P.underlying t with
  | some (.slice e) => if (P.info? e).isSome ∧ C.sz n = szOf P e then
   match mx with
   | none => match bndI 0 lo,bndI l.length hi with
    | some p,some u => .need (0 ≤ p ∧ p ≤ u ∧ u ≤ (l.length : Int)) (K (.tl n ((l.drop p.toNat).take (u.toNat - p.toNat))) h)
    | _,_ => .stuck "slice"
   | some m => match bndN 0 lo,hi,bndN 0 (some m) with
    | some 0,some u,some 0 => match bndN 0 (some u) with
     | some 0 => K (.R h.length) (h ++ [some (.rows n [] true h.length)])
     | _ => .stuck "slice"
    | _,_,_ => .stuck "slice"
   else .stuck "slice"
  | _ => .stuck "slice"
 | .R id => match P.underlying t,mx,hget h id with
  | some (.slice e),none,some (.rows n l full root) => if (P.info? e).isSome ∧ C.sz n = szOf P e ∧ wlo ≤ id then
   match bndI 0 lo,bndI l.length hi with
   | some p,some u => .need (0 ≤ p ∧ p ≤ u ∧ u ≤ (l.length : Int)) (K (.R h.length) (h.set id none ++ [some (.rows n ((l.drop p.toNat).take (u.toNat - p.toNat)) (full && hi.isNone) root)]))
   | _,_ => .stuck "slice"
   else .stuck "slice"
  | _,_,_ => .stuck "slice"
 | .sl sz id off len cap ex => match P.underlying t with
  | some (.slice e) => if (P.info? e).isSome ∧ sz = szOf P e then
   match mx with
   | none => match bndN 0 lo,bndN len hi with
    | some p,some u => if p ≤ u ∧ u ≤ cap then K (.sl sz id (off + p * sz) (u - p) (cap - p) ex) h else .stuck "slice"
    | _,_ => .stuck "slice"
   | some m => match bndN 0 lo,hi,bndN 0 (some m) with
    | some p,some u,some m => match bndN 0 (some u) with
     | some u => if p ≤ u ∧ u ≤ m ∧ m ≤ cap then (bif Nat.ble m p then K (.a (.list sz [] true)) h else K (.sl sz id (off + p * sz) (u - p) (m - p) true) h) else .stuck "slice"
     | none => .stuck "slice"
    | _,_,_ => .stuck "slice"
   else .stuck "slice"
  | _ => .stuck "slice"
 | .ptr id off => match P.underlying t,mx,hget h id with
  | some (.array n e),none,some (.cells cs) => if (P.info? e).isSome ∧ off + n * szOf P e ≤ cs.length then
   match bndN 0 lo,bndN n hi with
   | some p,some u => if p ≤ u ∧ u ≤ n then K (.sl (szOf P e) id (off + p * szOf P e) (u - p) (n - p) true) h else .stuck "slice"
   | _,_ => .stuck "slice"
   else .stuck "slice"
  | _,_,_ => .stuck "slice"
 | _ => .stuck "slice"
def pickS {T : Nat → Type} (c a b : SV T) (K : SV T → Tree) : Tree :=
 match c with
 | .a (.bool true) => K a
 | .a (.bool false) => K b
 | .b t => .fork t (K a) (K b)
 | _ => .stuck "pick"
def nilCheckS {T : Nat → Type} (x : SV T) (K : SV T → Tree) : Tree :=
 match x with
 | .ptr id off => K (.ptr id off)
 | .ep id i off => K (.ep id i off)
 | .fp cs => K (.fp cs)
 | .fn (.func f) a b => K (.fn (.func f) a b)
 | .a v => opt (nilCheckA v) "nilCheck" fun r => K (.a r)
 | _ => .stuck "nilCheck"
def extractS {T : Nat → Type} (x : SV T) (i : Nat) (K : SV T → Tree) : Tree :=
 match x with
 | .tup vs => opt (vs[i]?) "extract" K
 | .a (.tup vs) => opt (vs[i]?) "extract" fun v => K (.a v)
 | _ => .stuck "extract"
def minS {T : Nat → Type} (mx : Bool) (args : List (SV T)) (K : SV T → Tree) : Tree :=
 match args with
 | [x,y] => match intOf x,intOf y with
  | some (k,m),some (_,n) => bif isLit x && isLit y then K (.a (.int k (bif mx then (if m < n then n else m) else (if n < m then n else m))))
   else K (.i k (bif mx then (if m < n then n else m) else (if n < m then n else m)))
  | _,_ => .stuck "min"
 | _ => .stuck "min"
def lookupS (P : Program) (t : TypeId) (h : SH C) (m x : SV C.T) (ok : Bool) (K : SV C.T → Tree) : Tree := .stuck "lookup"
def quietX (S : AStat) (wlo : Nat) (ev : Operand → SV C.T) (h : SH C) (op : Op) (K : SV C.T → SH C → Tree) : Tree :=
 match op with
 | .move x => K (ev x) h
 | .assign x => K (ev x) h
 | .pick c a b => pickS (ev c) (ev a) (ev b) fun v => K v h
 | .build t parts => buildS S.P t (parts.toList.map fun p => (p.1,ev p.2)) fun v => K v h
 | .load t x => loadS S.P t h (ev x) fun v => K v h
 | .nilCheck x => nilCheckS (ev x) fun v => K v h
 | .binOp op t x y _ => binS S.P op t (litB x || litB y) (ev x) (ev y) fun v => K v h
 | .unOp op _ x => unS op (ev x) fun v => K v h
 | .convert s d x => convS S.P s d h (ev x) fun v => K v h
 | .makeInterface t x => if ifaceB S.P t then .stuck "makeInterface" else K (.iface t (ev x)) h
 | .makeFunc f first captured => K (.fn f (first.toList.map ev) (captured.toList.map ev)) h
 | .slice t x lo hi mx => sliceS S.P wlo t h (ev x) (lo.map ev) (hi.map ev) (mx.map ev) K
 | .fieldAddr t x f => fieldAddrS S.P t (ev x) f fun v => K v h
 | .field t x f => fieldS S.P t (ev x) f fun v => K v h
 | .indexAddr t x i => indexAddrS S.P t h (ev x) (ev i) fun v => K v h
 | .index t x i => indexS S.P t (ev x) (ev i) fun v => K v h
 | .extract x i => extractS (ev x) i fun v => K v h
 | .lookup t m x ok => lookupS S.P t h (ev m) (ev x) ok fun v => K v h
 | .typeAssert x _ t ok => typeAssertS S.P (ev x) t ok fun v => K v h
 | .call c => match c.callee with
  | .builtin .len => match c.argTypes[0]?,c.args[0]? with
   | some t,some x => lenS S.P t h (ev x) fun v => K v h
   | _,_ => .stuck "len"
  | .builtin .min => minS false (c.args.toList.map ev) fun v => K v h
  | .builtin .max => minS true (c.args.toList.map ev) fun v => K v h
  | _ => .stuck "quiet call"
 | _ => .stuck "quiet"
def newX (S : AStat) (ev : Operand → SV C.T) (op : Op) (K : (Nat → Obj C.T) → (Nat → SV C.T) → Tree) : Tree :=
 match op with
 | .alloc t => match zeroA S.P t with
  | some z => if z.cells.all AVal.one then K (fun _ => .cells (z.cells.map .a)) (fun id => .ptr id 0) else .stuck "alloc"
  | none => .stuck "alloc"
 | .box _ x => match cellsS (ev x) with
  | some cs => if cs.all oneS then K (fun _ => .cells cs) (fun id => .ptr id 0) else .stuck "box"
  | none => .stuck "box"
 | .buildSlice t len parts => match S.P.underlying t with
  | some (.slice e) => match zeroA S.P e with
   | none => .stuck "buildSlice"
   | some z => if z.cells.length = szOf S.P e ∧ szOf S.P e ≠ 0 ∧ z.cells.all AVal.one ∧ len * szOf S.P e ≤ 16777216 then
    match fillS (fun i => some (i * szOf S.P e,szOf S.P e)) (((List.replicate len z.cells).flatten).map .a) (parts.toList.map fun p => (p.1,ev p.2)) with
    | some cs => K (fun _ => .cells cs) (fun id => .sl (szOf S.P e) id 0 len len false)
    | none => .stuck "buildSlice: parts"
    else .stuck "buildSlice"
  | _ => .stuck "buildSlice"
 | .makeSlice t l c => match S.P.underlying t with
  | some (.slice e) => match zeroA S.P e with
   | none => .stuck "makeSlice"
   | some z => if z.cells.length = szOf S.P e ∧ szOf S.P e ≠ 0 ∧ z.cells.all AVal.one then
    match bndN 0 (some (ev l)),bndN 0 (some (ev c)) with
    | some l,some c => if l ≤ c ∧ c * S.P.bytesOf e ≤ 281474976710656 ∧ c ≤ 9223372036854775807 then
     K (fun _ => .cells (((List.replicate c z.cells).flatten).map .a)) (fun id => .sl (szOf S.P e) id 0 l c true) else .stuck "makeSlice"
    | _,_ => match intOf (ev l),intOf (ev c),C.ofTy e with
     | some (_,l),some (_,c),some n => match C.dec n (z.cells.map .a) with
      | some x => if C.sz n = szOf S.P e then .need (0 ≤ l ∧ l = c ∧ c * S.P.bytesOf e ≤ 281474976710656 ∧ c ≤ 9223372036854775807) (K (fun id => .rows n (List.replicate l.toNat x) true id) (fun id => .R id)) else .stuck "makeSlice"
      | none => .stuck "makeSlice"
     | _,_,_ => .stuck "makeSlice"
    else .stuck "makeSlice"
  | _ => .stuck "makeSlice"
 | .makeMap _ none => K (fun _ => .mp []) (fun id => .mapr id)
 | .range t x => match S.P.underlying t,strOf (ev x) with
  | some .string,some s => K (fun _ => .it s 0) (fun id => .ptr id 0)
  | _,_ => .stuck "range"
 | _ => .stuck "new"
def byteOf (C : Codec) (n : Nat) (b : UInt8) : C.T n := (C.dec n [.i .u8 b.toNat]).getD (C.dflt n)
def isBytesB (P : Program) (op : Op) : Bool :=
 match op with
 | .convert s d _ => match P.underlying s,P.underlying d with
  | some .string,some (.slice _) => true
  | _,_ => false
 | _ => false
def bytesX (P : Program) (ev : Operand → SV C.T) (op : Op) (K : (Nat → Obj C.T) → (Nat → SV C.T) → Tree) : Tree :=
 match op with
 | .convert s d x => match P.underlying s,P.underlying d,strOf (ev x) with
  | some .string,some (.slice e),some t => match P.underlying e,C.ofTy e with
   | some (.int .u8),some n => if C.sz n = 1 then .need (∀ b : UInt8,(C.dec n [.i .u8 b.toNat]).isSome = true) (K (fun id => .rows n (t.map (byteOf C n)) true id) (fun id => .R id)) else .stuck "bytes"
   | _,_ => .stuck "bytes"
  | _,_,_ => .stuck "bytes"
 | _ => .stuck "bytes"
def storeX (P : Program) (wlo : Nat) (t : TypeId) (h : SH C) (x v : SV C.T) (K : SV C.T → SH C → Tree) : Tree :=
 match cellsS v with
 | none => .stuck "store"
 | some vs =>
  if vs.length = szOf P t ∧ (P.info? t).isSome ∧ vs.all oneS then
   match x with
   | .ptr id off => match hget h id with
    | some (.cells cs) => if wlo ≤ id ∧ off + vs.length ≤ cs.length then K (.a undefA) (h.set id (some (.cells (cs.take off ++ vs ++ cs.drop (off + vs.length))))) else .stuck "store: not one's own"
    | _ => .stuck "store: gone"
   | .ep id i off => match hget h id with
    | some (.rows n l full root) => if wlo ≤ id ∧ off + vs.length ≤ C.sz n then
     match C.dec n ((C.enc n (C.at n l i)).take off ++ vs ++ (C.enc n (C.at n l i)).drop (off + vs.length)) with
     | some y => .need (0 ≤ i ∧ i < (l.length : Int)) (K (.a undefA) (h.set id (some (.rows n (l.set i.toNat y) full root))))
     | none => .stuck "store: a row"
     else .stuck "store: not one's own"
    | _ => .stuck "store: gone"
   | _ => .stuck "store"
  else .stuck "store: cells"
def chunkS {T : Nat → Type} (sz : Nat) : Nat → List (SV T) → List (List (SV T))
 | 0,_ => []
 | n + 1,cs => cs.take sz :: chunkS sz n (cs.drop sz)
def decAll (n : Nat) : List (List (SV C.T)) → Option (List (C.T n))
 | [] => some []
 | r :: rs => match C.dec n r with
  | none => none
  | some x => match decAll n rs with
   | none => none
   | some xs => some (x :: xs)
inductive Src (C : Codec) where
 | lit (rows : List (List (SV C.T)))
 | typ (n : Nat) (l : List (C.T n))
 | no
def srcS (h : SH C) (sz : Nat) (x : SV C.T) : Src C :=
 match x with
 | .a .nils => .lit []
 | .a (.list s rows _) => if s = sz ∧ (rows.all fun r => r.length == sz) then .lit (rows.map (List.map .a)) else .no
 | .a (.str s) => if sz = 1 then .lit (s.map fun b => [.a (.int .u8 b.toNat)]) else .no
 | .sl s id off len _ _ => if s = sz then
  match hget h id with
  | some (.cells cs) => if off + len * sz ≤ cs.length then .lit (chunkS sz len (cs.drop off)) else .no
  | _ => .no
  else .no
 | .tl n l => if C.sz n = sz then .typ n l else .no
 | .R id => match hget h id with
  | some (.rows n l _ _) => if C.sz n = sz then .typ n l else .no
  | _ => .no
 | _ => .no
def castL {C : Codec} {n m : Nat} (e : n = m) (l : List (C.T n)) : List (C.T m) := e ▸ l
def appendX (P : Program) (wlo : Nat) (t u : TypeId) (h : SH C) (s x : SV C.T) (K : SV C.T → SH C → Tree) : Tree :=
 match P.underlying t with
 | some (.slice e) =>
  if (P.info? e).isSome ∧ szOf P e ≠ 0 ∧ notIntB P u = true ∧ zeroFits P e = true ∧ P.bytesOf e ≠ 0 then
   match srcS h (szOf P e) x with
   | .no => .stuck "append: what"
   | .lit rows =>
    if !(rows.flatten.all oneS) then .stuck "append: cells" else
    match s with
    | .a .nils =>
     if rows.length = 0 then K (.a .nils) h
     else if rows.length * P.bytesOf e ≤ 140737488355328 then K (.sl (szOf P e) h.length 0 rows.length rows.length false) (h ++ [some (.cells rows.flatten)])
     else .stuck "append: size"
    | .sl s0 id off len cap ex =>
     if s0 ≠ szOf P e then .stuck "append: size" else
     match hget h id with
     | some (.cells cs) =>
      if off + len * szOf P e ≤ cs.length then
       if rows.length = 0 then K (.sl s0 id off len cap ex) h
       else if len + rows.length ≤ cap then
        if wlo ≤ id ∧ off + (len + rows.length) * szOf P e ≤ cs.length then
         K (.sl (szOf P e) id off (len + rows.length) cap ex) (h.set id (some (.cells (cs.take (off + len * szOf P e) ++ rows.flatten ++ cs.drop (off + len * szOf P e + rows.flatten.length)))))
        else .stuck "append: not one's own"
       else if (len + rows.length) * P.bytesOf e ≤ 140737488355328 then
        bif ex then K (.sl (szOf P e) h.length 0 (len + rows.length) (len + rows.length) false) (h ++ [some (.cells ((cs.drop off).take (len * szOf P e) ++ rows.flatten))])
        else if wlo ≤ id ∧ off + len * szOf P e = cs.length then K (.sl (szOf P e) h.length 0 (len + rows.length) (len + rows.length) false) (h.set id none ++ [some (.cells (cs.drop off ++ rows.flatten))])
        else .stuck "append: not one's own"
       else .stuck "append: size"
      else .stuck "append: size"
     | _ => .stuck "append: gone"
    | .R id => match hget h id with
     | some (.rows n l full root) =>
      if C.sz n = szOf P e ∧ wlo ≤ id then
       match decAll n rows with
       | none => .stuck "append: a row"
       | some xs => match xs with
        | [] => K (.R id) h
        | y :: ys => if full = true ∨ ys.length = 0 then
         .need ((l.length + (y :: ys).length) * P.bytesOf e ≤ 140737488355328) (K (.R h.length) (h.set id none ++ [some (.rows n (l ++ y :: ys) full root)]))
         else .stuck "append: how much room"
      else .stuck "append: not one's own"
     | _ => .stuck "append: gone"
    | _ => .stuck "append: to what"
   | .typ n l' =>
    match s with
    | .a .nils => .need (l'.length * P.bytesOf e ≤ 140737488355328) (K (.R h.length) (h ++ [some (.rows n l' true h.length)]))
    | .R id => match hget h id with
     | some (.rows m l full root) =>
      if C.sz m = szOf P e ∧ wlo ≤ id ∧ full = true then
       if em : n = m then .need ((l.length + l'.length) * P.bytesOf e ≤ 140737488355328) (K (.R h.length) (h.set id none ++ [some (.rows m (l ++ castL em l') full root)]))
       else .stuck "append: rows of two kinds"
      else .stuck "append: not one's own"
     | _ => .stuck "append: gone"
    | .sl s0 id off len cap ex => match hget h id with
     | some (.cells cs) =>
      if s0 = szOf P e ∧ wlo ≤ id ∧ off + len * szOf P e = cs.length ∧ cap = len ∧ ex = false then
       match decAll n (chunkS (szOf P e) len (cs.drop off)) with
       | none => .stuck "append: a row"
       | some xs => .need ((xs.length + l'.length) * P.bytesOf e ≤ 140737488355328) (K (.R h.length) (h.set id none ++ [some (.rows n (xs ++ l') true id)]))
      else .stuck "append: to what"
     | _ => .stuck "append: gone"
    | _ => .stuck "append: to what"
  else .stuck "append: types"
 | _ => .stuck "append: types"
abbrev CallX (C : Codec) := Nat → FuncId → List (SV C.T) → SH C → (SV C.T → SH C → Tree) → Tree
def litsS {T : Nat → Type} : List (SV T) → Option (List AVal)
 | [] => some []
 | .a v :: xs => (litsS xs).map (v :: ·)
 | _ :: _ => none
def ifaceS {T : Nat → Type} : SV T → Option (TypeId × SV T)
 | .iface t v => some (t,v)
 | .a (.iface t v) => some (t,.a v)
 | _ => none
def callG (S : AStat) (noExt : FuncId → Bool) (call : CallX C) (wlo : Nat) (g : FuncId) (xs : List (SV C.T)) (h : SH C) (K : SV C.T → SH C → Tree) : Tree :=
 bif noExt g then call wlo g xs h K else match litsS xs with
 | some as => match S.ext g as with
  | some v => K (.a v) h
  | none => .stuck "ext"
 | none => .stuck "ext"
def mapUpdX (P : Program) (wlo : Nat) (t : TypeId) (h : SH C) (m x v : SV C.T) (K : SV C.T → SH C → Tree) : Tree := .stuck "mapUpdate"
def nextX (wlo : Nat) (h : SH C) (x : SV C.T) (isString : Bool) (K : SV C.T → SH C → Tree) : Tree := .stuck "next"
def effX (S : AStat) (noExt : FuncId → Bool) (call : CallX C) (wlo : Nat) (ev : Operand → SV C.T) (h : SH C) (op : Op) (K : SV C.T → SH C → Tree) : Tree :=
 match op with
 | .store t x v => storeX S.P wlo t h (ev x) (ev v) K
 | .mapUpdate t m x v => mapUpdX S.P wlo t h (ev m) (ev x) (ev v) K
 | .next x isString => nextX wlo h (ev x) isString K
 | .call c => match c.callee with
  | .builtin .append => match c.args.toList.map ev,c.argTypes.toList with
   | [s,x],[t,u] => appendX S.P wlo t u h s x K
   | _,_ => .stuck "append"
  | .value f => match ev f with
   | .a (.fn (.func g) first captured) => callG S noExt call wlo g (first.map .a ++ c.args.toList.map ev ++ captured.map .a) h K
   | .fn (.func g) first captured => callG S noExt call wlo g (first ++ c.args.toList.map ev ++ captured) h K
   | _ => .stuck "call of what"
  | .invoke r name => match ifaceS (ev r) with
   | some (t,v) => match S.meth t name,nkS v with
    | some g,some (.p,_) => call wlo g (v :: c.args.toList.map ev) h K
    | _,_ => match v,litsS (c.args.toList.map ev) with
     | .a v0,some as => match S.methV t name v0 with
      | some (g,v1) => match S.ext g (v1 :: as) with
       | some w => K (.a w) h
       | none => .stuck "ext"
      | none => .stuck "invoke"
     | _,_ => .stuck "invoke"
   | none => .stuck "invoke"
  | _ => .stuck "builtin"
 | _ => .stuck "no such operation"
noncomputable def sPut (r : SR C) (dst : Option Tmp) (v : SV C.T) : SR C :=
 match dst with
 | some d => r.set d v
 | none => r
noncomputable def guardX (ops : List Oper) (r : SR C) (o : Oper) (yes no : SR C → Tree) : Tree :=
 match o.guard with
 | none => yes r
 | some (j,want) =>
  match (ops[j]?).bind (·.dst) with
  | none => no r
  | some d => bif Nat.blt d r.n then
   match r.get d with
   | .a (.bool b) => bif b == want then yes r else no r
   | .a (.tup _) => no r
   | .b t => bif want then .fork t (yes (r.set d (.a (.bool true)))) (no (r.set d (.a (.bool false)))) else .fork t (no (r.set d (.a (.bool true)))) (yes (r.set d (.a (.bool false))))
   | _ => .stuck "guard"
   else no r
structure Cf (C : Codec) where
 S : AStat
 noExt : FuncId → Bool
noncomputable def opX (F : Cf C) (call : CallX C) (wlo : Nat) (r : SR C) (h : SH C) (o : Oper) (K : SV C.T → SH C → Tree) : Tree :=
 bif isNewB o.op then newX F.S (sEval F.S r.get) o.op fun ob mk => K (mk h.length) (h ++ [some (ob h.length)])
 else bif isEffB o.op then effX F.S F.noExt call wlo (sEval F.S r.get) h o.op K
 else bif isBytesB F.S.P o.op then bytesX F.S.P (sEval F.S r.get) o.op fun ob mk => K (mk h.length) (h ++ [some (ob h.length)])
 else quietX F.S wlo (sEval F.S r.get) h o.op K
noncomputable def opsX (F : Cf C) (call : CallX C) (wlo : Nat) (ops : List Oper) : List Oper → SR C → SH C → (SR C → SH C → Tree) → Tree
 | [],r,h,K => K r h
 | o :: rest,r,h,K => guardX ops r o
  (fun r => opX F call wlo r h o fun v h' => opsX F call wlo ops rest (sPut r o.dst v) h' K)
  (fun r => opsX F call wlo ops rest (sPut r o.dst (.a undefA)) h K)
inductive Kt where
 | c (x : Code)
 | blk (id : Nat)
 | lp (b : Code)
def unwind (i : Nat) : List Kt → Option (List Kt)
 | [] => none
 | .blk id :: k => bif Nat.beq i id then some k else unwind i k
 | .c _ :: k => unwind i k
 | .lp _ :: k => unwind i k
end Go.Sy

/- How the shape of a memory is carried along as objects come, turn and go. Generic: over any program. -/
namespace Go.Sy
open Go.Am
set_option linter.unusedVariables false
variable {C : Codec} {E : Env}
structure LeN (n N : Nat) (E E' : Env) : Prop where
 le : E.le E'
 old : ∀ id,id < n → E'.β id = E.β id ∧ E'.γ id = E.γ id
 fr : ∀ b cs,E'.Fr b cs → E.Fr b cs
 own : ∀ b r,E'.ω b = some r → E.ω b = some r ∨ N ≤ b
theorem LeN.refl {N : Nat} (n : Nat) (E : Env) : LeN n N E E := ⟨Env.le.refl E,fun _ _ => ⟨rfl,rfl⟩,fun _ _ h => h,fun _ _ h => .inl h⟩
theorem LeN.trans {n m N M : Nat} {E E' E'' : Env} (hnm : n ≤ m) (hNM : N ≤ M) (h : LeN n N E E') (k : LeN m M E' E'') : LeN n N E E'' :=
 ⟨h.le.trans k.le,fun id hid => ⟨(k.old id (by omega)).1.trans (h.old id hid).1,(k.old id (by omega)).2.trans (h.old id hid).2⟩,fun b cs x => h.fr b cs (k.fr b cs x),fun b r x => by
  rcases k.own b r x with h1 | h1
  ·exact h.own b r h1
  ·exact .inr (by omega)⟩
def Env.put (E : Env) (n : Nat) (β' : Option Nat) (a : AVal) (root : Nat) : Env where
 β := fun i => if i = n then β' else E.β i
 γ := fun i => if i = n then some a else E.γ i
 ω := fun b => if β' = some b then some root else E.ω b
 Fr := E.Fr
theorem ObjOk.heap {H H' : Heap} {id : Nat} {o : Obj C.T} (hb : ∀ b,E.β id = some b → H'[b]? = H[b]?) (h : ObjOk E H id o) : ObjOk E H' id o := by
 cases o with
 | cells cs =>
  obtain ⟨b,as,h1,hw,h2,h3⟩ := h
  exact ⟨b,as,h1,hw,by rw [hb b h1]; exact h2,h3⟩
 | mp es =>
  obtain ⟨b,as,h1,hw,h2,h3⟩ := h
  exact ⟨b,as,h1,hw,by rw [hb b h1]; exact h2,h3⟩
 | it s pos =>
  obtain ⟨b,h1,hw,h2⟩ := h
  exact ⟨b,h1,hw,by rw [hb b h1]; exact h2⟩
 | rows n l full root =>
  rcases h with h | ⟨b,off,cap,ex,as,h1,h2,hw,h3,h4⟩
  ·exact .inl h
  ·exact .inr ⟨b,off,cap,ex,as,h1,h2,hw,by rw [hb b h2]; exact h3,h4⟩
theorem lt_of_some {α : Type} {l : List α} {i : Nat} {a : α} (h : l[i]? = some a) : i < l.length := by
 rcases Nat.lt_or_ge i l.length with k | k
 ·exact k
 ·rw [List.getElem?_eq_none k] at h; cases h
theorem SimH.putN {lo wlo N : Nat} {h : SH C} {H H' : Heap} (hS : SimH E lo wlo h H) (id : Nat) (o' : Obj C.T) (β' : Option Nat) (a : AVal) (root : Nat) (hl : H.length ≤ H'.length)
 (hX : ∀ b,b < H.length → H'[b]? ≠ H[b]? → (∀ cs,¬ E.Fr b cs) ∧ ∀ (i : Nat) (o : Obj C.T),i ≠ id → h[i]? = some (some o) → E.β i ≠ some b)
 (hb : ∀ b,β' = some b → b < H'.length ∧ lo ≤ b ∧ (∀ cs,¬ E.Fr b cs) ∧ (∀ (i : Nat) (o : Obj C.T),i ≠ id → h[i]? = some (some o) → E.β i ≠ some b) ∧ ((E.ω b = none ∧ N ≤ b) ∨ E.ω b = some root))
 (ho : LeN h.length N E (E.put h.length β' a root) → ObjOk (E.put h.length β' a root) H' h.length o') :
 LeN h.length N E (E.put h.length β' a root) ∧ SimH (E.put h.length β' a root) lo wlo (h.set id none ++ [some o']) H' := by
 have fresh := hS.fresh h.length (Nat.le_refl _)
 have hle : LeN h.length N E (E.put h.length β' a root) := by
  refine ⟨⟨?_, ?_, ?_,fun _ _ h => h⟩, ?_,fun _ _ h => h, ?_⟩
  ·intro i b hi
   simp only [Env.put]
   split
   ·rename_i e; subst e; rw [fresh.1] at hi; cases hi
   ·exact hi
  ·intro i b hi
   simp only [Env.put]
   split
   ·rename_i e; subst e; rw [fresh.2] at hi; cases hi
   ·exact hi
  ·intro b r hr
   simp only [Env.put]
   split
   ·rename_i e
    rcases (hb b e).2.2.2.2 with h1 | h1
    ·rw [h1.1] at hr; cases hr
    ·rw [h1] at hr; exact hr
   ·exact hr
  ·intro i hi
   simp only [Env.put]
   rw [if_neg (by omega),if_neg (by omega)]
   exact ⟨rfl,rfl⟩
  ·intro b r hr
   simp only [Env.put] at hr
   split at hr
   ·rename_i e
    rcases (hb b e).2.2.2.2 with h1 | h1
    ·exact .inr h1.2
    ·left; rw [h1]; exact hr
   ·exact .inl hr
 refine ⟨hle, ?_⟩
 have hold : ∀ (i : Nat) (o : Obj C.T),(h.set id none ++ [some o'])[i]? = some (some o) → (i ≠ id ∧ i < h.length ∧ h[i]? = some (some o)) ∨ (i = h.length ∧ o = o') := by
  intro i o hi
  rcases Nat.lt_or_ge i h.length with k | k
  ·rw [List.getElem?_append_left (by simpa using k),List.getElem?_set] at hi
   split at hi
   ·split at hi <;> cases hi
   ·rename_i e
    exact .inl ⟨fun x => e x.symm,k,hi⟩
  ·rw [List.getElem?_append_right (by simpa using k)] at hi
   rw [List.length_set] at hi
   rcases Nat.eq_or_lt_of_le k with e | e
   ·rw [← e] at hi
    simp at hi
    exact .inr ⟨e.symm,hi.symm⟩
   ·rw [List.getElem?_eq_none (by simp; omega)] at hi
    cases hi
 have same : ∀ (i : Nat) (o : Obj C.T),i ≠ id → h[i]? = some (some o) → ∀ b,E.β i = some b → H'[b]? = H[b]? := by
  intro i o h1 h2 b h3
  by_cases e : H'[b]? = H[b]?
  ·exact e
  ·exact ((hX b (hS.bnd i b h3) e).2 i o h1 h2 h3).elim
 refine ⟨?_, ?_, ?_, ?_, ?_, ?_, ?_, ?_, ?_, ?_⟩
 ·intro i o hi
  rcases hold i o hi with ⟨h1,h2,h3⟩ | ⟨rfl,rfl⟩
  ·refine ((hS.obj i o h3).heap (same i o h1 h3)).mono hle.le ?_
   intro hn
   rw [(hle.old i h2).1]
   exact hn
  ·exact ho hle
 ·intro i i' o p b hi hi' hb1 hb2
  rcases hold i o hi with ⟨h1,h2,h3⟩ | ⟨rfl,rfl⟩ <;> rcases hold i' p hi' with ⟨h4,h5,h6⟩ | ⟨h4,rfl⟩
  ·rw [(hle.old i h2).1] at hb1
   rw [(hle.old i' h5).1] at hb2
   exact hS.inj i i' o p b h3 h6 hb1 hb2
  ·rw [(hle.old i h2).1] at hb1
   subst h4
   simp only [Env.put,if_true] at hb2
   exact ((hb b hb2).2.2.2.1 i o h1 h3 hb1).elim
  ·rw [(hle.old i' h5).1] at hb2
   simp only [Env.put,if_true] at hb1
   exact ((hb b hb1).2.2.2.1 i' p h4 h6 hb2).elim
  ·exact h4.symm
 ·intro b cs hf
  obtain ⟨h1,h2⟩ := hS.fr b cs hf
  refine ⟨?_, ?_⟩
  ·by_cases e : H'[b]? = H[b]?
   ·rw [e]; exact h1
   ·exact ((hX b (lt_of_some h1) e).1 cs hf).elim
  ·intro i o hi
   rcases hold i o hi with ⟨h3,h4,h5⟩ | ⟨rfl,rfl⟩
   ·rw [(hle.old i h4).1]
    exact h2 i o h5
   ·simp only [Env.put,if_true]
    exact fun e => (hb b e).2.2.1 cs hf
 ·intro i hi
  have hi : h.length + 1 ≤ i := by simpa using hi
  simp only [Env.put]
  rw [if_neg (by omega),if_neg (by omega)]
  exact hS.fresh i (by omega)
 ·intro i b hi hb1
  simp only [Env.put] at hb1
  split at hb1
  ·exact (hb b hb1).2.1
  ·exact hS.low i b hi hb1
 ·intro i b hb1
  simp only [Env.put] at hb1
  split at hb1
  ·exact (hb b hb1).1
  ·exact Nat.lt_of_lt_of_le (hS.bnd i b hb1) hl
 ·intro b r hr
  simp only [Env.put] at hr
  split at hr
  ·rename_i e
   exact ⟨(hb b e).1,(hb b e).2.2.1⟩
  ·exact ⟨Nat.lt_of_lt_of_le (hS.own b r hr).1 hl,(hS.own b r hr).2⟩
 ·intro i b hb1
  simp only [Env.put] at hb1 ⊢
  split at hb1
  ·rw [if_pos hb1]
   exact ⟨root,rfl⟩
  ·split
   ·exact ⟨root,rfl⟩
   ·exact hS.βω i b hb1
 ·have := hS.wl
  simp
  omega
 ·exact Nat.le_trans hS.ll hl
theorem SimH.put {lo wlo : Nat} {h : SH C} {H H' : Heap} (hS : SimH E lo wlo h H) (id : Nat) (o' : Obj C.T) (β' : Option Nat) (a : AVal) (root : Nat) (hl : H.length ≤ H'.length)
 (hX : ∀ b,b < H.length → H'[b]? ≠ H[b]? → (∀ cs,¬ E.Fr b cs) ∧ ∀ (i : Nat) (o : Obj C.T),i ≠ id → h[i]? = some (some o) → E.β i ≠ some b)
 (hb : ∀ b,β' = some b → b < H'.length ∧ lo ≤ b ∧ (∀ cs,¬ E.Fr b cs) ∧ (∀ (i : Nat) (o : Obj C.T),i ≠ id → h[i]? = some (some o) → E.β i ≠ some b) ∧ ((E.ω b = none ∧ H.length ≤ b) ∨ E.ω b = some root))
 (ho : LeN h.length H.length E (E.put h.length β' a root) → ObjOk (E.put h.length β' a root) H' h.length o') :
 LeN h.length H.length E (E.put h.length β' a root) ∧ SimH (E.put h.length β' a root) lo wlo (h.set id none ++ [some o']) H' := hS.putN id o' β' a root hl hX hb ho
theorem SimH.upd {lo wlo : Nat} {h : SH C} {H H' : Heap} (hS : SimH E lo wlo h H) {id : Nat} {o o' : Obj C.T} (hid : h[id]? = some (some o)) (hl : H.length ≤ H'.length)
 (hX : ∀ b,b < H.length → H'[b]? ≠ H[b]? → E.β id = some b) (ho : ObjOk E H' id o') : SimH E lo wlo (h.set id (some o')) H' := by
 have hold : ∀ (i : Nat) (p : Obj C.T),(h.set id (some o'))[i]? = some (some p) → (i ≠ id ∧ h[i]? = some (some p)) ∨ (i = id ∧ p = o') := by
  intro i p hi
  rw [List.getElem?_set] at hi
  split at hi
  ·rename_i e
   split at hi
   ·simp only [Option.some.injEq] at hi
    exact .inr ⟨e.symm,hi.symm⟩
   ·cases hi
  ·rename_i e
   exact .inl ⟨fun x => e x.symm,hi⟩
 have live : ∀ (i : Nat) (p : Obj C.T),(h.set id (some o'))[i]? = some (some p) → ∃ q,h[i]? = some (some q) := by
  intro i p hi
  rcases hold i p hi with ⟨_,h2⟩ | ⟨rfl,_⟩
  ·exact ⟨_,h2⟩
  ·exact ⟨_,hid⟩
 refine ⟨?_, ?_, ?_, ?_,hS.low, ?_, ?_,hS.βω, ?_,Nat.le_trans hS.ll hl⟩
 ·intro i p hi
  rcases hold i p hi with ⟨h1,h2⟩ | ⟨rfl,rfl⟩
  ·refine (hS.obj i p h2).heap fun b hb => ?_
   by_cases e : H'[b]? = H[b]?
   ·exact e
   ·exact (h1 (hS.inj i id p o b h2 hid hb (hX b (hS.bnd i b hb) e))).elim
  ·exact ho
 ·intro i i' p q b hi hi' h1 h2
  obtain ⟨p',hp⟩ := live i p hi
  obtain ⟨q',hq⟩ := live i' q hi'
  exact hS.inj i i' p' q' b hp hq h1 h2
 ·intro b cs hf
  obtain ⟨h1,h2⟩ := hS.fr b cs hf
  refine ⟨?_,fun i p hi => ?_⟩
  ·by_cases e : H'[b]? = H[b]?
   ·rw [e]; exact h1
   ·exact (h2 id o hid (hX b (lt_of_some h1) e)).elim
  ·obtain ⟨q,hq⟩ := live i p hi
   exact h2 i q hq
 ·intro i hi
  exact hS.fresh i (by simpa using hi)
 ·intro i b hb
  exact Nat.lt_of_lt_of_le (hS.bnd i b hb) hl
 ·intro b r hr
  exact ⟨Nat.lt_of_lt_of_le (hS.own b r hr).1 hl,(hS.own b r hr).2⟩
 ·have := hS.wl
  simpa using this
theorem SimH.push {lo wlo : Nat} (N : Nat) {h : SH C} {H H' : Heap} (hS : SimH E lo wlo h H) (o' : Obj C.T) (a : AVal) (p : Nat) (hp : p < H'.length) (hlo : lo ≤ p) (hN : N ≤ p) (hn : H[p]? = none ∨ (H[p]? = some none ∧ E.ω p = none)) (hl : H.length ≤ H'.length)
 (hX : ∀ b,b < H.length → b ≠ p → H'[b]? = H[b]?) (ho : LeN h.length N E (E.put h.length (some p) a h.length) → ObjOk (E.put h.length (some p) a h.length) H' h.length o') :
 LeN h.length N E (E.put h.length (some p) a h.length) ∧ SimH (E.put h.length (some p) a h.length) lo wlo (h ++ [some o']) H' := by
 have nofr : ∀ cs,¬ E.Fr p cs := by
  intro cs hf
  have := (hS.fr p cs hf).1
  rcases hn with h1 | ⟨h1,_⟩ <;> rw [h1] at this <;> cases this
 have noβ : ∀ i,E.β i ≠ some p := by
  intro i hi
  rcases hn with h1 | ⟨_,h2⟩
  ·have := hS.bnd i p hi
   rw [List.getElem?_eq_none_iff] at h1
   omega
  ·obtain ⟨r,hr⟩ := hS.βω i p hi
   rw [h2] at hr
   cases hr
 have noω : E.ω p = none := by
  rcases hn with h1 | ⟨_,h2⟩
  ·cases hw : E.ω p with
   | none => rfl
   | some r =>
    have := (hS.own p r hw).1
    rw [List.getElem?_eq_none_iff] at h1
    omega
  ·exact h2
 have := hS.putN (N := N) h.length o' (some p) a h.length hl (fun b hb hne => by
  by_cases e : b = p
  ·subst e
   exact ⟨nofr,fun i o _ _ => noβ i⟩
  ·exact (hne (hX b hb e)).elim) (fun b hb => by
  simp only [Option.some.injEq] at hb
  subst hb
  exact ⟨hp,hlo,nofr,fun i o _ _ => noβ i,.inl ⟨noω,hN⟩⟩) ho
 have e : h.set h.length none = h := by
  apply List.ext_getElem?
  intro j
  rw [List.getElem?_set]
  split
  ·rename_i hj
   subst hj
   simp
  ·rfl
 rw [e] at this
 exact this
end Go.Sy

/- What makes blocks and turns them, on symbolic values, is sound. Generic: over any program. -/
namespace Go.Sy
open Go.Am
set_option linter.unusedVariables false
variable {C : Codec} {E : Env} {P : Program}
def Out (E : Env) (lo wlo : Nat) (h : SH C) (H : Heap) (r : AVal → Heap → Prop) (K : SV C.T → SH C → Tree) : Prop :=
 ∃ v H' sv h' E',r v H' ∧ LeN h.length H.length E E' ∧ h.length ≤ h'.length ∧ SimH E' lo wlo h' H' ∧ H.length ≤ H'.length ∧ Er E' sv v ∧ (K sv h').holds
theorem Out.mono {lo wlo : Nat} {h : SH C} {H : Heap} {r r' : AVal → Heap → Prop} {K : SV C.T → SH C → Tree} (hr : ∀ v H',r v H' → r' v H') (h1 : Out E lo wlo h H r K) : Out E lo wlo h H r' K := by
 obtain ⟨v,H',sv,h',E',h1,h2⟩ := h1
 exact ⟨v,H',sv,h',E',hr _ _ h1,h2⟩
theorem Out.of_ret {lo wlo : Nat} {h : SH C} {H : Heap} (hS : SimH E lo wlo h H) {x : Option AVal} {K : SV C.T → SH C → Tree} (hr : Ret E x fun v => K v h) : Out E lo wlo h H (fun v H' => x = some v ∧ H' = H) K := by
 obtain ⟨v,sv,h1,h2,h3⟩ := hr
 exact ⟨v,H,sv,h,E,⟨h1,rfl⟩,LeN.refl _ _,Nat.le_refl _,hS,Nat.le_refl _,h2,h3⟩
def RowsEr (E : Env) (z : Nat) (rows : List (List (SV C.T))) (rA : List (List AVal)) : Prop :=
 rows.length = rA.length ∧ ∀ (i : Nat) (r : List (SV C.T)) (ra : List AVal),rows[i]? = some r → rA[i]? = some ra → Ers E r ra ∧ ra.length = z
theorem RowsEr.tail {z : Nat} {r : List (SV C.T)} {rows : List (List (SV C.T))} {ra : List AVal} {rA : List (List AVal)} (h : RowsEr E z (r :: rows) (ra :: rA)) : Ers E r ra ∧ ra.length = z ∧ RowsEr E z rows rA := by
 have h0 := h.2 0 r ra rfl rfl
 exact ⟨h0.1,h0.2,by simpa using h.1,fun i p q h1 h2 => h.2 (i + 1) p q (by simpa using h1) (by simpa using h2)⟩
theorem RowsEr.flatten {z : Nat} : ∀ {rows : List (List (SV C.T))} {rA : List (List AVal)},RowsEr E z rows rA → Ers E rows.flatten rA.flatten
 | [],[],_ => Ers.nil
 | [],_ :: _,h => by simp [RowsEr] at h
 | _ :: _,[],h => by simp [RowsEr] at h
 | r :: rows,ra :: rA,h => by
  obtain ⟨h1,_,h2⟩ := h.tail
  simp only [List.flatten_cons]
  exact h1.append h2.flatten
theorem flat_len {z : Nat} : ∀ {rA : List (List AVal)},(∀ (i : Nat) (ra : List AVal),rA[i]? = some ra → ra.length = z) → rA.flatten.length = rA.length * z
 | [],_ => by simp
 | r :: rA,h => by
  have h0 := h 0 r rfl
  have := flat_len (rA := rA) fun i ra hi => h (i + 1) ra (by simpa using hi)
  simp only [List.flatten_cons,List.length_append,List.length_cons,this,h0,Nat.succ_mul]
  omega
theorem flat_get {z : Nat} : ∀ {rA : List (List AVal)} {i j : Nat} {ra : List AVal},(∀ (i : Nat) (ra : List AVal),rA[i]? = some ra → ra.length = z) → rA[i]? = some ra → j < z → rA.flatten[i * z + j]? = ra[j]?
 | [],i,j,ra,_,h,_ => by simp at h
 | r :: rA,0,j,ra,hl,h,hj => by
  simp only [List.getElem?_cons_zero,Option.some.injEq] at h
  subst h
  simp only [List.flatten_cons,Nat.zero_mul,Nat.zero_add]
  rw [List.getElem?_append_left (by rw [hl 0 r rfl]; exact hj)]
 | r :: rA,i + 1,j,ra,hl,h,hj => by
  have h0 := hl 0 r rfl
  simp only [List.flatten_cons]
  rw [List.getElem?_append_right (by rw [h0,Nat.succ_mul]; omega)]
  rw [show (i + 1) * z + j - r.length = i * z + j by rw [h0,Nat.succ_mul]; omega]
  exact flat_get (fun k ra hk => hl (k + 1) ra (by simpa using hk)) (by simpa using h) hj
theorem RowsEr.lens {z : Nat} {rows : List (List (SV C.T))} {rA : List (List AVal)} (h : RowsEr E z rows rA) : ∀ (i : Nat) (ra : List AVal),rA[i]? = some ra → ra.length = z := by
 intro i ra hi
 have hl := lt_of_some hi
 exact (h.2 i _ ra (List.getElem?_eq_getElem (by rw [h.1]; exact hl)) hi).2
theorem chunk_get {z : Nat} : ∀ {n i : Nat} {cs : List AVal},i < n → (chunk z n cs)[i]? = some ((cs.drop (i * z)).take z)
 | 0,i,cs,h => by omega
 | n + 1,0,cs,h => by simp [chunk]
 | n + 1,i + 1,cs,h => by
  simp only [chunk,List.getElem?_cons_succ]
  rw [chunk_get (by omega),List.drop_drop]
  rw [show z + i * z = (i + 1) * z by rw [Nat.succ_mul]; omega]
theorem chunk_len {z : Nat} : ∀ (n : Nat) (cs : List AVal),(chunk z n cs).length = n
 | 0,_ => rfl
 | n + 1,cs => by simp [chunk,chunk_len n]
theorem chunkS_ok {z : Nat} : ∀ {n : Nat} {cs : List (SV C.T)} {as : List AVal},Ers E cs as → n * z ≤ as.length → RowsEr E z (chunkS z n cs) (chunk z n as)
 | 0,cs,as,_,_ => ⟨rfl,fun i r ra h => by simp [chunkS] at h⟩
 | n + 1,cs,as,h,hl => by
  have hz : z + n * z ≤ as.length := by rw [Nat.succ_mul] at hl; omega
  have ih := chunkS_ok (z := z) (n := n) (h.drop z) (by simp; omega)
  refine ⟨by simp only [chunkS,chunk,List.length_cons,ih.1],fun i r ra h1 h2 => ?_⟩
  cases i with
  | zero =>
   simp only [chunkS,chunk,List.getElem?_cons_zero,Option.some.injEq] at h1 h2
   subst h1 h2
   exact ⟨h.take z,by simp; omega⟩
  | succ i =>
   simp only [chunkS,chunk,List.getElem?_cons_succ] at h1 h2
   exact ih.2 i r ra h1 h2
theorem decAll_ok (hC : CodecOk C) {z n : Nat} : ∀ {rows : List (List (SV C.T))} {rA : List (List AVal)} {xs : List (C.T n)},RowsEr E z rows rA → decAll n rows = some xs → RowsEr E z (xs.map (C.enc n)) rA
 | [],rA,xs,h,hd => by
  simp only [decAll,Option.some.injEq] at hd
  subst hd
  exact h
 | r :: rows,[],xs,h,hd => by simp [RowsEr] at h
 | r :: rows,ra :: rA,xs,h,hd => by
  simp only [decAll] at hd
  split at hd
  ·cases hd
  ·rename_i x hx
   split at hd
   ·cases hd
   ·rename_i xs' hxs
    simp only [Option.some.injEq] at hd
    subst hd
    obtain ⟨h1,h2,h3⟩ := h.tail
    have ih := decAll_ok hC h3 hxs
    refine ⟨by simp [ih.1],fun i p q h4 h5 => ?_⟩
    cases i with
    | zero =>
     simp only [List.map_cons,List.getElem?_cons_zero,Option.some.injEq] at h4 h5
     subst h4 h5
     exact ⟨hC.dec n r x hx E ra h1,h2⟩
    | succ i =>
     simp only [List.map_cons,List.getElem?_cons_succ] at h4 h5
     exact ih.2 i p q h4 h5
theorem RowsAt.of_flat (hC : CodecOk C) {n : Nat} {ys : List (C.T n)} {rA : List (List AVal)} {as : List AVal} {off : Nat} (h : RowsEr E (C.sz n) (ys.map (C.enc n)) rA) (hf : ∀ k,k < rA.flatten.length → as[off + k]? = rA.flatten[k]?) : RowsAt E n ys as off := by
 intro i y j x a h1 h2 h3
 have hl := lt_of_some h1
 have hil : i < rA.length := by rw [← h.1]; simpa using hl
 have hra : rA[i]? = some rA[i] := List.getElem?_eq_getElem hil
 have hr := h.2 i (C.enc n y) rA[i] (by simp [h1]) hra
 have hj : j < C.sz n := by have := lt_of_some h2; rw [hC.len] at this; exact this
 have hk : i * C.sz n + j < rA.flatten.length := by
  rw [flat_len h.lens]
  have := mul_le_of (z := C.sz n) hil
  omega
 rw [Nat.add_assoc,hf _ hk,flat_get h.lens hra hj] at h3
 exact hr.1.2 j x a h2 h3
theorem RowsAt.append (hC : CodecOk C) {n : Nat} {l ys : List (C.T n)} {rA : List (List AVal)} {as as' : List AVal} {off off' : Nat} (h : RowsAt E n l as off) (hr : RowsEr E (C.sz n) (ys.map (C.enc n)) rA)
 (h1 : ∀ k,k < l.length * C.sz n → as'[off' + k]? = as[off + k]?) (h2 : ∀ k,k < rA.flatten.length → as'[off' + l.length * C.sz n + k]? = rA.flatten[k]?) : RowsAt E n (l ++ ys) as' off' := by
 intro i y j x a g1 g2 g3
 have hj : j < C.sz n := by have := lt_of_some g2; rw [hC.len] at this; exact this
 rcases Nat.lt_or_ge i l.length with hi | hi
 ·rw [List.getElem?_append_left hi] at g1
  have := mul_le_of (z := C.sz n) hi
  rw [Nat.add_assoc,h1 _ (by omega),← Nat.add_assoc] at g3
  exact h i y j x a g1 g2 g3
 ·rw [List.getElem?_append_right hi] at g1
  refine RowsAt.of_flat hC hr h2 (i - l.length) y j x a g1 g2 ?_
  rw [show off' + l.length * C.sz n + (i - l.length) * C.sz n + j = off' + i * C.sz n + j by rw [Nat.add_assoc off',← Nat.add_mul,Nat.add_sub_cancel' hi]]
  exact g3
theorem RowsEr.map_enc (hC : CodecOk C) {n : Nat} {l : List (C.T n)} {rA : List (List AVal)} (hl : rA.length = l.length) (h : ∀ (i : Nat) (y : C.T n) (ra : List AVal),l[i]? = some y → rA[i]? = some ra → Ers E (C.enc n y) ra) : RowsEr E (C.sz n) (l.map (C.enc n)) rA := by
 refine ⟨by simp [hl],fun i r ra h1 h2 => ?_⟩
 rw [List.getElem?_map,Option.map_eq_some_iff] at h1
 obtain ⟨y,h3,rfl⟩ := h1
 have := h i y ra h3 h2
 exact ⟨this,by rw [← this.1,hC.len]⟩
def Src.Ok (E : Env) (z : Nat) (rA : List (List AVal)) : Src C → Prop
 | .lit rows => RowsEr E z rows rA
 | .typ n l => C.sz n = z ∧ RowsEr E z (l.map (C.enc n)) rA
 | .no => True
theorem srcS_ok (hC : CodecOk C) {lo wlo : Nat} {h : SH C} {H : Heap} (hS : SimH E lo wlo h H) {z : Nat} {x : SV C.T} {a : AVal} (hx : Er E x a) {src : Src C} (e : srcS h z x = src) (hn : src ≠ .no) : ∃ rA,rowsA H z a = some rA ∧ src.Ok E z rA := by
 unfold srcS at e
 split at e
 ·cases hx
  subst e
  exact ⟨[],rfl,rfl,fun i r ra h => by simp at h⟩
 ·cases hx
  split at e
  ·rename_i s rows ex hc
   subst e
   refine ⟨rows,by simp [rowsA,hc.1],by simp,fun i r ra h1 h2 => ?_⟩
   rw [List.getElem?_map,h2] at h1
   simp only [Option.map_some,Option.some.injEq] at h1
   subst h1
   refine ⟨Ers.mapA ra, ?_⟩
   have := List.all_eq_true.1 hc.2 ra (List.mem_of_getElem? h2)
   simpa using this
  ·exact (hn e.symm).elim
 ·cases hx
  split at e
  ·rename_i s hc
   subst e
   refine ⟨s.map fun b => [.int .u8 b.toNat],by simp [rowsA,hc],by simp,fun i r ra h1 h2 => ?_⟩
   rw [List.getElem?_map,Option.map_eq_some_iff] at h1 h2
   obtain ⟨b,h3,rfl⟩ := h1
   obtain ⟨b',h4,rfl⟩ := h2
   rw [h3] at h4
   simp only [Option.some.injEq] at h4
   subst h4
   exact ⟨Ers.nil.cons (.a _),by simp [hc]⟩
  ·exact (hn e.symm).elim
 ·split at e
  ·rename_i s id off len cap ex hs
   split at e
   ·rename_i cs ho
    split at e
    ·rename_i hle
     subst e
     cases hx with
     | sl hb =>
      obtain ⟨b,as,g1,_,g2,g3⟩ := hS.obj id _ (hget_some ho)
      rw [hb] at g1
      simp only [Option.some.injEq] at g1
      subst g1
      have hl := g3.1
      refine ⟨chunk z len (as.drop off), ?_,chunkS_ok (g3.drop off) (by simp; omega)⟩
      simp only [rowsA,hs,if_true,g2]
      rw [if_pos (by omega)]
    ·exact (hn e.symm).elim
   ·exact (hn e.symm).elim
  ·exact (hn e.symm).elim
 ·split at e
  ·rename_i n l hz
   subst e
   cases hx with
   | tlN => exact ⟨[],rfl,hz,rfl,fun i r ra h => by simp at h⟩
   | tlL h1 h2 h3 h4 =>
    rename_i z' rows ex
    refine ⟨rows,by simp [rowsA,h1,hz],hz, ?_⟩
    rw [← hz]
    exact RowsEr.map_enc hC h2 fun i y ra g1 g2 => ⟨by rw [hC.len,h3 i ra g2],fun j x a g3 g4 => h4 i y ra j x a g1 g2 g3 g4⟩
   | tlS h1 h2 hf h3 h4 h5 =>
    rename_i z' b off len cap as ex
    have g2 := (hS.fr _ _ hf).1
    refine ⟨chunk z len (as.drop off), ?_,hz, ?_⟩
    ·simp only [rowsA,h1,hz,if_true,g2]
     rw [if_pos (by rw [h2,← hz]; exact h3)]
    ·rw [← hz]
     refine RowsEr.map_enc hC (by rw [chunk_len,h2]) fun i y ra g1 g3 => ?_
     have hi : i < l.length := lt_of_some g1
     rw [chunk_get (by omega),Option.some.injEq] at g3
     subst g3
     rw [List.drop_drop]
     have := mul_le_of (z := C.sz n) hi
     exact Ers.of_at hC h5 g1 (by omega)
  ·exact (hn e.symm).elim
 ·rename_i id
  split at e
  ·rename_i n l full root ho
   split at e
   ·rename_i hz
    subst e
    cases hx with
    | R hg hs =>
     rcases hS.obj id _ (hget_some ho) with ⟨rfl,_,a',g1,g2⟩ | ⟨b,off,cap,ex,as,g1,g2,_,g3,g4,g5,g6,g7,g8⟩
     ·rw [hg] at g1
      simp only [Option.some.injEq] at g1
      subst g1
      refine ⟨[], ?_,hz,rfl,fun i r ra h => by simp at h⟩
      rcases g2 with rfl | rfl
      ·rfl
      ·simp [rowsA,hz]
     ·rw [hg] at g1
      simp only [Option.some.injEq] at g1
      subst g1
      have hm := Nat.mul_le_mul_right (C.sz n) g4
      refine ⟨chunk z l.length (as.drop off), ?_,hz, ?_⟩
      ·simp only [rowsA,hz,if_true,g3]
       rw [if_pos (by rw [← hz]; omega)]
      ·rw [← hz]
       refine RowsEr.map_enc hC (chunk_len _ _) fun i y ra q1 q2 => ?_
       have hi : i < l.length := lt_of_some q1
       rw [chunk_get hi,Option.some.injEq] at q2
       subst q2
       rw [List.drop_drop]
       have := mul_le_of (z := C.sz n) hi
       exact Ers.of_at hC g8 q1 (by omega)
   ·exact (hn e.symm).elim
  ·exact (hn e.symm).elim
 ·exact (hn e.symm).elim
end Go.Sy

/- Maps of numbers: what is looked up, and what turns them. Generic: over any program. -/
namespace Go.Sy
open Go.Am
set_option linter.unusedVariables false
variable {C : Codec} {E : Env} {P : Program}
theorem mpAt_hit {n m : Int} {v : AVal} {as : List (AVal × AVal)} : mpAt n ((.int .i64 m,v) :: as) = if n = m then some v else mpAt n as := rfl
theorem mpAt_skip {n : Int} {k v : AVal} {as : List (AVal × AVal)} (h : ∀ m,k ≠ .int .i64 m) : mpAt n ((k,v) :: as) = mpAt n as := by
 cases k with
 | int kk m => cases kk <;> first | rfl | exact (h m rfl).elim
 | _ => rfl
theorem mpAt_push {n : Int} {w : AVal} : ∀ {as : List (AVal × AVal)},mpAt n as = none → ∀ m,mpAt m (as ++ [(.int .i64 n,w)]) = if m = n then some w else mpAt m as
 | [],_,m => by rw [List.nil_append,mpAt_hit]
 | (k,v) :: as,h,m => by
  rw [List.cons_append]
  by_cases hk : ∃ m',k = .int .i64 m'
  ·obtain ⟨m',rfl⟩ := hk
   rw [mpAt_hit] at h
   split at h
   ·cases h
   ·rename_i e
    rw [mpAt_hit,mpAt_hit,mpAt_push h m]
    split
    ·rename_i e2
     subst e2
     rw [if_neg (fun e3 => e e3.symm)]
    ·rfl
  ·have hk' : ∀ m',k ≠ .int .i64 m' := fun m' e => hk ⟨m',e⟩
   rw [mpAt_skip hk'] at h
   rw [mpAt_skip hk',mpAt_skip hk',mpAt_push h m]
theorem lookupS_ok {lo wlo : Nat} {t : TypeId} {h : SH C} {H : Heap} (hS : SimH E lo wlo h H) {m x : SV C.T} {a b : AVal} {ok : Bool} (hm : Er E m a) (hx : Er E x b) {K : SV C.T → Tree} (hh : (lookupS P t h m x ok K).holds) : Ret E (lookupA P t H a b ok) K := by unfold lookupS at hh; exact (stuck_no hh).elim
theorem nodup_get {l : List (Int × SV C.T)} (h : (l.map (·.1)).Nodup) {i j : Nat} {n : Int} {x y : SV C.T} (hi : l[i]? = some (n,x)) (hj : l[j]? = some (n,y)) : i = j := by
 have h1 : (l.map (·.1))[i]? = some n := by rw [List.getElem?_map,hi]; rfl
 have h2 : (l.map (·.1))[j]? = some n := by rw [List.getElem?_map,hj]; rfl
 have hl : i < (l.map (·.1)).length := lt_of_some h1
 exact (List.getElem?_inj hl h).1 (h1.trans h2.symm)
theorem MpOk.set {es : List (Int × SV C.T)} {as as' : List (AVal × AVal)} (h : MpOk E es as) {i : Nat} {n : Int} {x y : SV C.T} {w : AVal} (hi : es[i]? = some (n,x)) (hy : Er E y w) (hk : ∀ p,p ∈ as' → ∃ m,p.1 = .int .i64 m) (hm : ∀ m,mpAt m as' = if m = n then some w else mpAt m as) : MpOk E (es.set i (n,y)) as' := by
 have hkeys : (es.set i (n,y)).map (·.1) = es.map (·.1) := by
  rw [List.map_set]
  apply List.ext_getElem?
  intro j
  rw [List.getElem?_set]
  split
  ·rename_i e
   subst e
   rw [List.getElem?_map,hi]
   have := lt_of_some hi
   simp [this]
  ·rfl
 have mem : ∀ m z,(m,z) ∈ es.set i (n,y) → (m = n ∧ z = y) ∨ (m ≠ n ∧ (m,z) ∈ es) := by
  intro m z hz
  obtain ⟨j,hj⟩ := List.mem_iff_getElem?.1 hz
  rw [List.getElem?_set] at hj
  split at hj
  ·split at hj
   ·simp only [Option.some.injEq,Prod.mk.injEq] at hj
    exact .inl ⟨hj.1.symm,hj.2.symm⟩
   ·cases hj
  ·rename_i e
   refine .inr ⟨fun e2 => ?_,List.mem_of_getElem? hj⟩
   subst e2
   exact e (nodup_get h.nodup hi hj)
 refine ⟨hk,by rw [hkeys]; exact h.nodup,fun m z hz => ?_,fun m v hv => ?_⟩
 ·rcases mem m z hz with ⟨rfl,rfl⟩ | ⟨h1,h2⟩
  ·exact .inl ⟨w,by rw [hm,if_pos rfl],hy⟩
  ·have := h.val m z h2
   rw [hm,if_neg h1]
   exact this
 ·rw [hm] at hv
  split at hv
  ·rename_i e
   subst e
   refine ⟨y,List.mem_iff_getElem?.2 ⟨i, ?_⟩⟩
   rw [List.getElem?_set,if_pos rfl,if_pos (lt_of_some hi)]
  ·rename_i e
   obtain ⟨z,hz⟩ := h.dom m v hv
   obtain ⟨j,hj⟩ := List.mem_iff_getElem?.1 hz
   refine ⟨z,List.mem_iff_getElem?.2 ⟨j, ?_⟩⟩
   rw [List.getElem?_set,if_neg]
   ·exact hj
   ·intro e2
    subst e2
    rw [hi] at hj
    simp only [Option.some.injEq,Prod.mk.injEq] at hj
    exact e hj.1.symm
theorem MpOk.push {es : List (Int × SV C.T)} {as : List (AVal × AVal)} (h : MpOk E es as) {n : Int} {y : SV C.T} {w : AVal} (hn : ∀ x,(n,x) ∉ es) (hy : Er E y w) : MpOk E (es ++ [(n,y)]) (as ++ [(.int .i64 n,w)]) := by
 have h0 : mpAt n as = none := by
  cases hv : mpAt n as with
  | none => rfl
  | some v =>
   obtain ⟨x,hx⟩ := h.dom n v hv
   exact (hn x hx).elim
 refine ⟨fun p hp => ?_, ?_,fun m z hz => ?_,fun m v hv => ?_⟩
 ·rcases List.mem_append.1 hp with hp | hp
  ·exact h.keys p hp
  ·rw [List.mem_singleton] at hp; subst hp; exact ⟨n,rfl⟩
 ·rw [List.map_append,List.nodup_append]
  refine ⟨h.nodup,by simp,fun a ha b hb e => ?_⟩
  simp only [List.map_cons,List.map_nil,List.mem_singleton] at hb
  subst hb
  subst e
  obtain ⟨⟨m,z⟩,hz,e⟩ := List.mem_map.1 ha
  simp only at e
  subst e
  exact hn z hz
 ·rw [mpAt_push h0]
  rcases List.mem_append.1 hz with hq | hq
  ·have e : m ≠ n := fun e => hn z (by rw [← e]; exact hq)
   rw [if_neg e]
   exact h.val m z hq
  ·rw [List.mem_singleton] at hq
   cases hq
   exact .inl ⟨w,by rw [if_pos rfl],hy⟩
 ·rw [mpAt_push h0] at hv
  split at hv
  ·rename_i e
   subst e
   exact ⟨y,List.mem_append.2 (.inr (by simp))⟩
  ·obtain ⟨x,hx⟩ := h.dom m v hv
   exact ⟨x,List.mem_append.2 (.inl hx)⟩
theorem mapUpdX_ok {lo wlo : Nat} {t : TypeId} {h : SH C} {H : Heap} (hS : SimH E lo wlo h H) {m x v : SV C.T} {a b c : AVal} (hm : Er E m a) (hx : Er E x b) (hv : Er E v c) {K : SV C.T → SH C → Tree} (hh : (mapUpdX P wlo t h m x v K).holds) :
 Out E lo wlo h H (fun r H' => r = undefA ∧ mapUpdateA P lo t H a b c = some H') K := by unfold mapUpdX at hh; exact (stuck_no hh).elim
theorem nextX_ok {lo wlo : Nat} {h : SH C} {H : Heap} (hS : SimH E lo wlo h H) {x : SV C.T} {a : AVal} {isString : Bool} (hx : Er E x a) {K : SV C.T → SH C → Tree} (hh : (nextX wlo h x isString K).holds) :
 Out E lo wlo h H (fun r H' => nextA lo H a isString = some (r,H')) K := by unfold nextX at hh; exact (stuck_no hh).elim
theorem mapUpdX_live {wlo : Nat} {t : TypeId} {h : SH C} {m x v : SV C.T} {K : SV C.T → SH C → Tree} (hh : (mapUpdX P wlo t h m x v K).holds) : ∃ id es,m = .mapr id ∧ hget h id = some (.mp es) := by unfold mapUpdX at hh; exact (stuck_no hh).elim
end Go.Sy

/- What makes blocks and turns them, on symbolic values, is sound: new blocks, stores. Generic: over any program. -/
namespace Go.Sy
open Go.Am
set_option linter.unusedVariables false
variable {C : Codec} {E : Env} {P : Program}
theorem bndN_ok {d : Nat} {x : Option (SV C.T)} {a : Option AVal} {r y : Nat} (hx : ∀ v,x = some v → ∃ w,a = some w ∧ Er E v w) (hn : x = none → a = none) (h : bndN d x = some r) (hr : r ≤ y ∨ x = none) : boundA d y a = some r := by
 unfold bndN at h
 split at h
 ·simp only [Option.some.injEq] at h
  subst h
  rw [hn rfl]
  rfl
 ·rename_i k m
  simp only [Option.some.injEq] at h
  subst h
  obtain ⟨w,rfl,hw⟩ := hx _ rfl
  cases hw
  rcases hr with hr | hr
  ·simp [boundA,idxA,hr]
  ·cases hr
 ·cases h
theorem boundA_of {a : AVal} {r : Nat} (h : boundA 0 r (some a) = some r) : idxA a = some r := by
 unfold boundA at h
 simp only at h
 split at h
 ·split at h
  ·rename_i e _; rw [e,← h]
  ·cases h
 ·cases h
theorem replicate_flat_get {α : Type} {zc : List α} {z : Nat} (hz : zc.length = z) : ∀ {n i j : Nat},i < n → j < z → ((List.replicate n zc).flatten)[i * z + j]? = zc[j]?
 | 0,i,j,h,_ => by omega
 | n + 1,0,j,_,hj => by
  simp only [List.replicate_succ,List.flatten_cons,Nat.zero_mul,Nat.zero_add]
  rw [List.getElem?_append_left (by omega)]
 | n + 1,i + 1,j,h,hj => by
  simp only [List.replicate_succ,List.flatten_cons]
  rw [List.getElem?_append_right (by rw [hz,Nat.succ_mul]; omega),show (i + 1) * z + j - zc.length = i * z + j by rw [hz,Nat.succ_mul]; omega]
  exact replicate_flat_get hz (by omega) hj
theorem replicate_flat_len {α : Type} {zc : List α} {z : Nat} (hz : zc.length = z) (n : Nat) : ((List.replicate n zc).flatten).length = n * z := by
 induction n with
 | zero => simp
 | succ n ih => simp only [List.replicate_succ,List.flatten_cons,List.length_append,ih,hz,Nat.succ_mul]; omega
theorem newX_ok (hC : CodecOk C) {S : AStat} {ρ : List AVal} {ev : Operand → SV C.T} (hev : ∀ x,Er E (ev x) (evalA S ρ x)) {op : Op} {K : (Nat → Obj C.T) → (Nat → SV C.T) → Tree} (h : (newX S ev op K).holds) :
 ∃ blk mkA o mk,newA S ρ op = some (blk,mkA) ∧ (K o mk).holds ∧ ∀ (E' : Env) (H' : Heap) (id b : Nat),E.le E' → E'.β id = some b → E'.γ id = some (mkA b) → E'.ω b = some id → H'[b]? = some (some blk) → ObjOk E' H' id (o id) ∧ Er E' (mk id) (mkA b) := by
 unfold newX at h
 split at h
 ·rename_i t
  split at h
  ·rename_i z hz
   split at h
   ·rename_i hall
    refine ⟨.cells z.cells,fun id => .ptr id 0,_,_, ?_,h, ?_⟩
    ·simp only [newA,allocA,hz,hall,if_true]
    ·intro E' H' id b _ hb _ hw hH
     exact ⟨⟨b,z.cells,hb,hw,hH,Ers.mapA _⟩,.ptr hb⟩
   ·exact (stuck_no h).elim
  ·exact (stuck_no h).elim
 ·rename_i t x
  split at h
  ·rename_i cs hcs
   split at h
   ·rename_i hall
    have hE := cellsS_ok (hev x) hcs
    refine ⟨.cells (evalA S ρ x).cells,fun id => .ptr id 0,_,_, ?_,h, ?_⟩
    ·simp only [newA,boxA,oneS_all hE hall,if_true]
    ·intro E' H' id b hle hb _ hw hH
     exact ⟨⟨b,_,hb,hw,hH,hE.mono hle⟩,.ptr hb⟩
   ·exact (stuck_no h).elim
  ·exact (stuck_no h).elim
 ·rename_i t len parts
  split at h
  ·rename_i e hu
   split at h
   ·exact (stuck_no h).elim
   ·rename_i z hz
    split at h
    ·rename_i hc
     split at h
     ·rename_i cs hcs
      have hp : PartsOk E (parts.toList.map fun p => (p.1,ev p.2)) (parts.toList.map fun p => (p.1,evalA S ρ p.2)) := by
       generalize parts.toList = l
       induction l with
       | nil => exact .nil
       | cons p l ih => exact .cons (hev p.2) ih
      obtain ⟨ra,h1,h2⟩ := fillS_ok hp (Ers.mapA _) hcs
      refine ⟨.cells ra,fun id => .sl (szOf S.P e) id 0 len len false,_,_, ?_,h, ?_⟩
      ·simp only [newA,buildSliceA,hu,hz,hc,and_self,if_true,h1,Option.map_some,ne_eq,not_false_eq_true]
      ·intro E' H' id b hle hb _ hw hH
       exact ⟨⟨b,ra,hb,hw,hH,h2.mono hle⟩,.sl hb⟩
     ·exact (stuck_no h).elim
    ·exact (stuck_no h).elim
  ·exact (stuck_no h).elim
 ·rename_i t l c
  split at h
  ·rename_i e hu
   split at h
   ·exact (stuck_no h).elim
   ·rename_i z hz
    split at h
    ·rename_i hc
     split at h
     ·rename_i ln cn hl hcn
      split at h
      ·rename_i hcc
       have el := boundA_of (bndN_ok (C := C) (E := E) (y := ln) (a := some (evalA S ρ l)) (fun v e => ⟨_,rfl,by cases e; exact hev l⟩) (fun e => by cases e) hl (.inl (Nat.le_refl _)))
       have ec := boundA_of (bndN_ok (C := C) (E := E) (y := cn) (a := some (evalA S ρ c)) (fun v e => ⟨_,rfl,by cases e; exact hev c⟩) (fun e => by cases e) hcn (.inl (Nat.le_refl _)))
       refine ⟨.cells (List.replicate cn z.cells).flatten,fun id => .sl (szOf S.P e) id 0 ln cn true,_,_, ?_,h, ?_⟩
       ·simp only [newA,makeSliceA,hu,el,ec,hz]
        rw [if_pos ⟨hcc.1,hcc.2.1,hcc.2.2,hc.1,hc.2.1,hc.2.2⟩]
       ·intro E' H' id b hle hb _ hw hH
        exact ⟨⟨b,_,hb,hw,hH,Ers.mapA _⟩,.sl hb⟩
      ·exact (stuck_no h).elim
     ·split at h
      ·rename_i kl ln kc cn n hl hcn hn
       split at h
       ·rename_i x hx
        split at h
        ·rename_i hsz
         obtain ⟨⟨h0,h1,h2,h3⟩,hk⟩ := h
         have el := intOf_ok (hev l) hl
         have ec := intOf_ok (hev c) hcn
         subst h1
         refine ⟨.cells (List.replicate ln.toNat z.cells).flatten,fun id => .sl (szOf S.P e) id 0 ln.toNat ln.toNat true,_,_, ?_,hk, ?_⟩
         ·simp only [newA,makeSliceA,hu,el,ec,idxA,h0,if_true,hz]
          rw [if_pos ⟨Nat.le_refl _,by
           have : ((ln.toNat * S.P.bytesOf e : Nat) : Int) ≤ 281474976710656 := by rw [Int.natCast_mul,Int.toNat_of_nonneg h0]; exact h2
           omega,by omega,hc.1,hc.2.1,hc.2.2⟩]
         ·intro E' H' id b hle hb hg hw hH
          have hE : Ers (C := C) E' (C.enc n x) z.cells := hC.dec n _ x hx E' _ (Ers.mapA _)
          refine ⟨.inr ⟨b,0,ln.toNat,true,_, ?_,hb,hw,hH, ?_, ?_,.inl rfl,fun _ => .inl rfl, ?_⟩,.R hg rfl⟩
          ·rw [hg,List.length_replicate,hsz]
          ·simp
          ·rw [replicate_flat_len hc.1,hsz]; omega
          ·intro i y j xx a g1 g2 g3
           have hi := lt_of_some g1
           simp only [List.length_replicate] at hi
           rw [List.getElem?_replicate,if_pos hi] at g1
           simp only [Option.some.injEq] at g1
           subst g1
           have hj : j < C.sz n := by have := lt_of_some g2; rw [hC.len] at this; exact this
           rw [Nat.zero_add,hsz,replicate_flat_get hc.1 hi (by omega)] at g3
           exact hE.2 j xx a g2 g3
        ·exact (stuck_no h).elim
       ·exact (stuck_no h).elim
      ·exact (stuck_no h).elim
    ·exact (stuck_no h).elim
  ·exact (stuck_no h).elim
 ·refine ⟨.mp [],fun id => .mapr id,_,_,rfl,h, ?_⟩
  intro E' H' id b hle hb _ hw hH
  exact ⟨⟨b,[],hb,hw,hH,fun p hp => by simp at hp,List.nodup_nil,fun n x hx => by simp at hx,fun n v hv => by simp [mpAt] at hv⟩,.mapr hb⟩
 ·rename_i t x
  split at h
  ·rename_i s hu hs
   refine ⟨.it s 0,fun id => .ptr id 0,_,_, ?_,h, ?_⟩
   ·simp only [newA,rangeA,hu,strOf_ok (hev x) hs]
   ·intro E' H' id b hle hb _ hw hH
    exact ⟨⟨b,hb,hw,hH⟩,.ptr hb⟩
  ·exact (stuck_no h).elim
 ·exact (stuck_no h).elim
theorem storeX_ok (hC : CodecOk C) {lo wlo : Nat} {t : TypeId} {h : SH C} {H : Heap} (hS : SimH E lo wlo h H) {x v : SV C.T} {a b : AVal} {K : SV C.T → SH C → Tree} (hx : Er E x a) (hv : Er E v b) (hh : (storeX P wlo t h x v K).holds) :
 Out E lo wlo h H (fun r H' => r = undefA ∧ storeA P lo t H a b = some H') K := by
 unfold storeX at hh
 split at hh
 ·exact (stuck_no hh).elim
 ·rename_i vs hvs
  have hE := cellsS_ok hv hvs
  have hEl := hE.1
  split at hh
  ·rename_i hc
   have hone := oneS_all hE hc.2.2
   split at hh
   ·rename_i id off
    split at hh
    ·rename_i cs ho
     split at hh
     ·rename_i hw
      cases hx with
      | ptr hb =>
       rename_i bb
       obtain ⟨b',as,g1,gw,g2,g3⟩ := hS.obj id _ (hget_some ho)
       rw [hb] at g1
       simp only [Option.some.injEq] at g1
       subst g1
       have hl := g3.1
       have hlo := hS.low id bb hw.1 hb
       have hst : storeA P lo t H (.ptr bb off) b = some (H.set bb (some (.cells (splice as off b.cells)))) := by
        simp only [storeA,g2]
        rw [if_pos ⟨hlo,by omega,hc.2.1,hone,by omega⟩]
       refine ⟨undefA,_,.a undefA,_,E,⟨rfl,hst⟩,LeN.refl _ _,by simp,hS.upd (hget_some ho) (by simp) ?_ ?_,by simp,.a _,hh⟩
       ·intro q hq hne
        rw [List.getElem?_set] at hne
        split at hne
        ·rename_i e; rw [← e]; exact hb
        ·exact (hne rfl).elim
       ·refine ⟨bb,_,hb,gw,by rw [List.getElem?_set,if_pos rfl,if_pos (lt_of_some g2)], ?_⟩
        unfold splice
        rw [← hEl]
        exact ((g3.take off).append hE).append (g3.drop (off + vs.length))
     ·exact (stuck_no hh).elim
    ·exact (stuck_no hh).elim
   ·rename_i id i off
    split at hh
    ·rename_i n l full root ho
     split at hh
     ·rename_i hw
      split at hh
      ·rename_i y hy
       obtain ⟨⟨h0,h1⟩,hk⟩ := hh
       have hat := Codec.at_get (C := C) h0 h1
       cases hx with
       | ep hg =>
        rename_i z bb o len cap ex
        rcases hS.obj id _ (hget_some ho) with ⟨rfl,_⟩ | ⟨b',off',cap',ex',as,g1,g2,gw,g3,g4,g5,g6,g7,g8⟩
        ·simp at h1; omega
        ·rw [hg] at g1
         simp only [Option.some.injEq,AVal.sl.injEq] at g1
         obtain ⟨rfl,rfl,rfl,rfl,rfl,rfl⟩ := g1
         have hi : i.toNat < l.length := by omega
         have hm := mul_le_of (z := C.sz n) hi
         have hcap := Nat.mul_le_mul_right (C.sz n) g4
         have hlo := hS.low id bb hw.1 g2
         have hrow := Ers.of_at hC g8 hat (by omega)
         have hnew := hC.dec n _ y hy E _ (((hrow.take off).append hE).append (hrow.drop (off + vs.length)))
         have hst : storeA P lo t H (.ptr bb (o + i.toNat * C.sz n + off)) b = some (H.set bb (some (.cells (splice as (o + i.toNat * C.sz n + off) b.cells)))) := by
          simp only [storeA,g3]
          rw [if_pos ⟨hlo,by omega,hc.2.1,hone,by omega⟩]
         refine ⟨undefA,_,.a undefA,_,E,⟨rfl,hst⟩,LeN.refl _ _,by simp,hS.upd (hget_some ho) (by simp) ?_ ?_,by simp,.a _,hk⟩
         ·intro q hq hne
          rw [List.getElem?_set] at hne
          split at hne
          ·rename_i e; rw [← e]; exact g2
          ·exact (hne rfl).elim
         ·have hslen : (splice as (o + i.toNat * C.sz n + off) b.cells).length = as.length := by
           unfold splice
           simp
           omega
          refine .inr ⟨bb,o,cap,ex,_,by rw [List.length_set]; exact hg,g2,gw,by rw [List.getElem?_set,if_pos rfl,if_pos (lt_of_some g3)],by simpa using g4,by rw [hslen]; exact g5,by rw [hslen]; exact g6,by simpa using g7, ?_⟩
          intro i' y' j xx aa q1 q2 q3
          have hj : j < C.sz n := by have := lt_of_some q2; rw [hC.len] at this; exact this
          -- the cells of the block behind the store
          have get : ∀ k,(splice as (o + i.toNat * C.sz n + off) b.cells)[k]? = if k < o + i.toNat * C.sz n + off then as[k]? else if k < o + i.toNat * C.sz n + off + b.cells.length then b.cells[k - (o + i.toNat * C.sz n + off)]? else as[k]? := by
           intro k
           unfold splice
           split
           ·rw [List.append_assoc,List.getElem?_append_left (by simp; omega),List.getElem?_take,if_pos (by assumption)]
           ·rename_i hk1
            split
            ·rw [List.append_assoc,List.getElem?_append_right (by simp; omega),List.getElem?_append_left (by simp; omega)]
             congr 1
             simp
             omega
            ·rw [List.getElem?_append_right (by simp; omega),List.getElem?_drop]
             congr 1
             simp
             omega
          rw [get] at q3
          by_cases hii : i' = i.toNat
          ·subst hii
           rw [List.getElem?_set,if_pos rfl,if_pos hi] at q1
           simp only [Option.some.injEq] at q1
           subst q1
           refine hnew.2 j xx aa q2 ?_
           have rowget : ∀ k,k < C.sz n → ((as.drop (o + i.toNat * C.sz n)).take (C.sz n))[k]? = as[o + i.toNat * C.sz n + k]? := by
            intro k hk
            rw [List.getElem?_take,if_pos hk,List.getElem?_drop]
           have rowlen : ((as.drop (o + i.toNat * C.sz n)).take (C.sz n)).length = C.sz n := by simp; omega
           rw [← hEl] at q3
           split at q3
           ·rw [List.append_assoc,List.getElem?_append_left (by rw [List.length_take,rowlen]; omega),List.getElem?_take,if_pos (by omega),rowget j hj]
            exact q3
           ·split at q3
            ·rw [List.append_assoc,List.getElem?_append_right (by rw [List.length_take,rowlen]; omega),List.getElem?_append_left (by rw [List.length_take,rowlen]; omega),List.length_take,rowlen]
             rw [show j - min off (C.sz n) = o + i.toNat * C.sz n + j - (o + i.toNat * C.sz n + off) by omega]
             exact q3
            ·rw [List.getElem?_append_right (by rw [List.length_append,List.length_take,rowlen]; omega),List.length_append,List.length_take,rowlen,List.getElem?_drop,
              show off + vs.length + (j - (min off (C.sz n) + b.cells.length)) = j by omega,rowget j hj]
             exact q3
          ·rw [List.getElem?_set,if_neg (fun e => hii e.symm)] at q1
           have hi' := lt_of_some q1
           have hm' := mul_le_of (z := C.sz n) hi'
           have apart : o + i' * C.sz n + j < o + i.toNat * C.sz n + off ∨ o + i.toNat * C.sz n + off + b.cells.length ≤ o + i' * C.sz n + j := by
            rcases Nat.lt_or_gt_of_ne hii with hlt | hgt
            ·have := mul_le_of (z := C.sz n) hlt
             left
             omega
            ·have := mul_le_of (z := C.sz n) hgt
             right
             omega
           refine g8 i' y' j xx aa q1 q2 ?_
           rcases apart with h5 | h5
           ·rw [if_pos h5] at q3
            exact q3
           ·rw [if_neg (by omega),if_neg (by omega)] at q3
            exact q3
      ·exact (stuck_no hh).elim
     ·exact (stuck_no hh).elim
    ·exact (stuck_no hh).elim
   ·exact (stuck_no hh).elim
  ·exact (stuck_no hh).elim
end Go.Sy

/- Appends to symbolic slices are sound. Generic: over any program. -/
namespace Go.Sy
open Go.Am
set_option linter.unusedVariables false
set_option linter.unusedSimpArgs false
variable {C : Codec} {E : Env} {P : Program}
theorem LeN.er {n N : Nat} {E E' : Env} (h : LeN n N E E') {x : SV C.T} {a : AVal} (k : Er E x a) : Er E' x a := k.mono h.le
theorem RowsEr.mono {E E' : Env} (k : E.le E') {z : Nat} {rows : List (List (SV C.T))} {rA : List (List AVal)} (h : RowsEr E z rows rA) : RowsEr E' z rows rA := ⟨h.1,fun i r ra h1 h2 => ⟨(h.2 i r ra h1 h2).1.mono k,(h.2 i r ra h1 h2).2⟩⟩
theorem RowsAt.mono {E E' : Env} (k : E.le E') {n : Nat} {l : List (C.T n)} {as : List AVal} {off : Nat} (h : RowsAt E n l as off) : RowsAt E' n l as off := fun i y j x a h1 h2 h3 => (h i y j x a h1 h2 h3).mono k
theorem splice_get {as bs : List AVal} {p k : Nat} (hp : p ≤ as.length) : (splice as p bs)[k]? = if k < p then as[k]? else if k < p + bs.length then bs[k - p]? else as[k]? := by
 unfold splice
 split
 ·rw [List.append_assoc,List.getElem?_append_left (by simp; omega),List.getElem?_take,if_pos (by assumption)]
 ·split
  ·rw [List.append_assoc,List.getElem?_append_right (by simp; omega),List.getElem?_append_left (by simp; omega)]
   congr 1
   simp
   omega
  ·rw [List.getElem?_append_right (by simp; omega),List.getElem?_drop]
   congr 1
   simp
   omega
structure AppOk (P : Program) (t u e : TypeId) : Prop where
 hu : P.underlying t = some (.slice e)
 hc : (P.info? e).isSome ∧ szOf P e ≠ 0 ∧ notIntB P u = true ∧ zeroFits P e = true ∧ P.bytesOf e ≠ 0
theorem new_rows (hC : CodecOk C) {E' : Env} {H' : Heap} {id p root : Nat} {n : Nat} {l : List (C.T n)} {rA : List (List AVal)} {full : Bool} (hg : E'.γ id = some (.sl (C.sz n) p 0 l.length l.length false)) (hb : E'.β id = some p) (hw : E'.ω p = some root)
 (hH : H'[p]? = some (some (.cells rA.flatten))) (hr : RowsEr E' (C.sz n) (l.map (C.enc n)) rA) : ObjOk E' H' id (.rows n l full root : Obj C.T) := by
 have hl : rA.flatten.length = l.length * C.sz n := by rw [flat_len hr.lens,← hr.1]; simp
 refine .inr ⟨p,0,l.length,false,_,hg,hb,hw,hH,Nat.le_refl _,by omega,.inr (by omega),fun _ => .inr rfl, ?_⟩
 exact RowsAt.of_flat hC hr fun k hk => by rw [Nat.zero_add]
theorem enc_one (hC : CodecOk C) {n : Nat} (l : List (C.T n)) : ((l.map (C.enc n)).flatten).all oneS = true := by
 rw [List.all_eq_true]
 intro x hx
 rw [List.mem_flatten] at hx
 obtain ⟨r,hr,hxr⟩ := hx
 rw [List.mem_map] at hr
 obtain ⟨y,_,rfl⟩ := hr
 exact List.all_eq_true.1 (hC.one n y) x hxr
theorem appendRows_ok (hC : CodecOk C) {lo wlo : Nat} {t u e : TypeId} (hA : AppOk P t u e) {h : SH C} {H : Heap} (hS : SimH E lo wlo h H) {id n : Nat} {l ys : List (C.T n)} {full : Bool} {root : Nat} (ho : hget h id = some (.rows n l full root)) (hz : C.sz n = szOf P e) (hw : wlo ≤ id)
 {a x : AVal} (ha : Er E (.R id : SV C.T) a) {rA : List (List AVal)} (hx : rowsA H (szOf P e) x = some rA) (hr : RowsEr E (C.sz n) (ys.map (C.enc n)) rA) (hf : full = true ∨ ys.length ≤ 1) (hsz : (l.length + ys.length) * P.bytesOf e ≤ 140737488355328) :
 ∃ v H' E',appendA P lo t u H a x = some (v,H') ∧ LeN h.length H.length E E' ∧ SimH E' lo wlo (h.set id none ++ [some (.rows n (l ++ ys) full root)]) H' ∧ H.length ≤ H'.length ∧ Er E' (.R h.length : SV C.T) v := by
 obtain ⟨hu,hc⟩ := hA
 have hn : rA.length = ys.length := by rw [← hr.1]; simp
 have hfl : rA.flatten.length = ys.length * C.sz n := by rw [flat_len hr.lens,hn]
 have hone : rA.flatten.all AVal.one = true := oneS_all hr.flatten (enc_one hC ys)
 have hid := hget_some ho
 have sml : ys.length = 0 → ys = [] := fun h => List.eq_nil_of_length_eq_zero h
 cases ha with
 | R hg hs =>
 -- the way to a new block
 have fresh : ∀ (H1 : Heap) (as : List AVal),H1.length = H.length → (∀ b,b < H.length → H1[b]? ≠ H[b]? → E.β id = some b) → RowsAt E n (l ++ ys) as 0 → as.length = (l.length + ys.length) * C.sz n →
  E.ω H.length = none →
  ∃ E',LeN h.length H.length E E' ∧ SimH E' lo wlo (h.set id none ++ [some (.rows n (l ++ ys) full root)]) (H1 ++ [some (ABlk.cells as)]) ∧ H.length ≤ (H1 ++ [some (ABlk.cells as)]).length ∧ Er E' (.R h.length : SV C.T) (.sl (szOf P e) H.length 0 (l.length + ys.length) (l.length + ys.length) false) := by
  intro H1 as hl1 hX hrows hlen hω
  have hput := hS.put (H' := H1 ++ [some (.cells as)]) id (.rows n (l ++ ys) full root) (some H.length) (.sl (szOf P e) H.length 0 (l.length + ys.length) (l.length + ys.length) false) root (by simp; omega) ?_ ?_ ?_
  ·refine ⟨_,hput.1,hput.2,by simp; omega,.R ?_ rfl⟩
   simp [Env.put]
  ·intro b hb hne
   rw [List.getElem?_append_left (by omega)] at hne
   have hbe := hX b hb hne
   refine ⟨fun cs hfr => (hS.fr b cs hfr).2 id _ hid hbe,fun i o hi hio hbi => hi (hS.inj i id o _ b hio hid hbi hbe)⟩
  ·intro b hb
   simp only [Option.some.injEq] at hb
   subst hb
   refine ⟨by simp; omega,hS.ll,fun cs hfr => ?_,fun i o hi hio hbi => ?_,.inl ⟨hω,Nat.le_refl _⟩⟩
   ·have := lt_of_some (hS.fr _ cs hfr).1
    omega
   ·have := hS.bnd i _ hbi
    omega
  ·intro hle
   refine .inr ⟨H.length,0,l.length + ys.length,false,as, ?_, ?_, ?_, ?_,by simp, ?_,.inr ?_,fun _ => .inr (by simp),hrows.mono hle.le⟩
   ·simp [Env.put,hz]
   ·simp [Env.put]
   ·simp [Env.put]
   ·rw [← hl1]; simp
   ·omega
   ·omega
 have noω : E.ω H.length = none := by
  cases hwn : E.ω H.length with
  | none => rfl
  | some r => have := (hS.own _ r hwn).1; omega
 rcases hS.obj id _ hid with ⟨rfl,hb0,a',g1,g2⟩ | ⟨b,off,cap,ex,as,g1,g2,gw,g3,g4,g5,g6,g7,g8⟩
 ·rw [hg] at g1
  simp only [Option.some.injEq] at g1
  subst g1
  simp only [List.length_nil,Nat.zero_add] at hsz fresh
  by_cases h0 : ys.length = 0
  ·-- nothing behind nothing
   have hy := sml h0
   subst hy
   have hr0 : rA = [] := List.eq_nil_of_length_eq_zero (by rw [hn]; rfl)
   subst hr0
   have e0 : appendA P lo t u H a x = some (a,H) := by
    rcases g2 with rfl | rfl
    ·simp [appendA,hu,hc,hx]
    ·simp [appendA,hu,hc,hx,hz]
   have hput := hS.put (H' := H) id (.rows n ([] ++ []) full root) none a root (Nat.le_refl _) (fun b _ hne => (hne rfl).elim) (fun b hb => by cases hb) (fun hle => .inl ⟨rfl,by simp [Env.put],a,by simp [Env.put],g2⟩)
   exact ⟨a,H,_,e0,hput.1,hput.2,Nat.le_refl _,.R (by simp [Env.put]) hs⟩
  ·have hy0 : rA.length ≠ 0 := by omega
   obtain ⟨E',k1,k2,k3,k4⟩ := fresh H rA.flatten rfl (fun b _ hne => (hne rfl).elim) (by
    rw [List.nil_append]
    exact RowsAt.of_flat hC hr fun k hk => by rw [Nat.zero_add]) hfl noω
   refine ⟨_,_,E', ?_,k1,k2,k3,k4⟩
   rcases g2 with rfl | rfl
   ·simp only [appendA,hu,hc,hx,hone]
    simp [hy0,hn,hsz,h0,hc]
   ·simp only [appendA,hu,hc,hx,hone]
    simp [hy0,hn,hsz,h0,hz,hc]
 ·rw [hg] at g1
  simp only [Option.some.injEq] at g1
  subst g1
  have hlo := hS.low id b hw g2
  have hcap := Nat.mul_le_mul_right (C.sz n) g4
  have hblt := lt_of_some g3
  by_cases h0 : ys.length = 0
  ·have hy := sml h0
   subst hy
   have hr0 : rA = [] := List.eq_nil_of_length_eq_zero (by rw [hn]; rfl)
   subst hr0
   have e0 : appendA P lo t u H (.sl (C.sz n) b off l.length cap ex) x = some (.sl (C.sz n) b off l.length cap ex,H) := by
    simp only [appendA,hu,hc,hx]
    simp [hz,g3,hc]
    rw [← hz]
    omega
   have hput := hS.put (H' := H) id (.rows n (l ++ []) full root) (some b) (.sl (C.sz n) b off l.length cap ex) root (Nat.le_refl _) (fun b _ hne => (hne rfl).elim) (fun b' hb => by
    simp only [Option.some.injEq] at hb
    subst hb
    exact ⟨hblt,hlo,fun cs hfr => (hS.fr b cs hfr).2 id _ hid g2,fun i o hi hio hbi => hi (hS.inj i id o _ b hio hid hbi g2),.inr gw⟩)
    (fun hle => .inr ⟨b,off,cap,ex,as,by simp [Env.put],by simp [Env.put],by simp [Env.put],g3,by simpa using g4,g5,g6,by simpa using g7,by rw [List.append_nil]; exact g8.mono hle.le⟩)
   exact ⟨_,H,_,e0,hput.1,hput.2,Nat.le_refl _,.R (by simp [Env.put]) rfl⟩
  ·have hy0 : rA.length ≠ 0 := by omega
   have hadd : (l.length + ys.length) * C.sz n = l.length * C.sz n + ys.length * C.sz n := Nat.add_mul _ _ _
   by_cases hroom : l.length + ys.length ≤ cap
   ·-- in its place
    have hroom2 := Nat.mul_le_mul_right (C.sz n) hroom
    have e0 : appendA P lo t u H (.sl (C.sz n) b off l.length cap ex) x = some (.sl (szOf P e) b off (l.length + ys.length) cap ex,H.set b (some (.cells (splice as (off + l.length * szOf P e) rA.flatten)))) := by
     simp only [appendA,hu,hc,hx,hone]
     simp [hz,g3,hy0,hn,h0,hroom,hlo,hc]
     rw [← hz]
     omega
    have hspl : (splice as (off + l.length * szOf P e) rA.flatten).length = as.length := by
     unfold splice
     rw [← hz]
     simp [hfl]
     omega
    have hput := hS.put (H' := H.set b (some (.cells (splice as (off + l.length * szOf P e) rA.flatten)))) id (.rows n (l ++ ys) full root) (some b) (.sl (szOf P e) b off (l.length + ys.length) cap ex) root (by simp)
     (fun b' hb hne => by
      rw [List.getElem?_set] at hne
      split at hne
      ·rename_i e1
       subst e1
       exact ⟨fun cs hfr => (hS.fr b cs hfr).2 id _ hid g2,fun i o hi hio hbi => hi (hS.inj i id o _ b hio hid hbi g2)⟩
      ·exact (hne rfl).elim)
     (fun b' hb => by
      simp only [Option.some.injEq] at hb
      subst hb
      exact ⟨by simpa using hblt,hlo,fun cs hfr => (hS.fr b cs hfr).2 id _ hid g2,fun i o hi hio hbi => hi (hS.inj i id o _ b hio hid hbi g2),.inr gw⟩)
     (fun hle => by
      refine .inr ⟨b,off,cap,ex,_,by simp [Env.put,hz],by simp [Env.put],by simp [Env.put],by rw [List.getElem?_set,if_pos rfl,if_pos hblt],by simpa using hroom,by rw [hspl]; exact g5,by rw [hspl]; exact g6, ?_, ?_⟩
      ·intro hfu
       rcases g7 hfu with h1 | h1
       ·exact .inl h1
       ·omega
      ·refine (RowsAt.append hC g8 hr ?_ ?_).mono hle.le
       ·intro k hk
        rw [splice_get (by rw [← hz]; omega),if_pos (by rw [← hz]; omega)]
       ·intro k hk
        rw [splice_get (by rw [← hz]; omega),if_neg (by rw [← hz]; omega),if_pos (by rw [← hz]; omega)]
        congr 1
        rw [← hz]
        omega)
    exact ⟨_,_,_,e0,hput.1,hput.2,by simp,.R (by simp [Env.put]) rfl⟩
   ·-- a new block
    have rowsNew : ∀ (pre : List AVal),pre = (as.drop off).take (l.length * C.sz n) → RowsAt E n (l ++ ys) (pre ++ rA.flatten) 0 ∧ (pre ++ rA.flatten).length = (l.length + ys.length) * C.sz n := by
     rintro pre rfl
     have hpl : ((as.drop off).take (l.length * C.sz n)).length = l.length * C.sz n := by simp; omega
     refine ⟨RowsAt.append hC g8 hr ?_ ?_,by rw [List.length_append,hpl,hfl]; omega⟩
     ·intro k hk
      rw [Nat.zero_add,List.getElem?_append_left (by omega),List.getElem?_take,if_pos hk,List.getElem?_drop]
     ·intro k hk
      rw [Nat.zero_add,List.getElem?_append_right (by omega),hpl,Nat.add_sub_cancel_left]
    cases hex : ex with
    | true =>
     subst hex
     obtain ⟨r1,r2⟩ := rowsNew _ rfl
     obtain ⟨E',k1,k2,k3,k4⟩ := fresh H _ rfl (fun b _ hne => (hne rfl).elim) r1 r2 noω
     refine ⟨_,_,E', ?_,k1,k2,k3,k4⟩
     simp only [appendA,hu,hc,hx,hone]
     simp [hz,g3,hy0,hn,h0,hroom,hsz,hc]
     rw [← hz]
     omega
    | false =>
     subst hex
     have hcl : cap = l.length := by
      rcases hf with hf | hf
      ·rcases g7 hf with h1 | h1
       ·cases h1
       ·exact h1
      ·omega
     subst hcl
     have hend : off + l.length * C.sz n = as.length := by
      rcases g6 with h1 | h1
      ·cases h1
      ·exact h1
     have hpre : as.drop off = (as.drop off).take (l.length * C.sz n) := (List.take_of_length_le (by simp; omega)).symm
     obtain ⟨r1,r2⟩ := rowsNew (as.drop off) hpre
     obtain ⟨E',k1,k2,k3,k4⟩ := fresh (H.set b none) _ (by simp) (fun b' _ hne => by
      rw [List.getElem?_set] at hne
      split at hne
      ·rename_i e1; rw [← e1]; exact g2
      ·exact (hne rfl).elim) r1 r2 noω
     refine ⟨_,_,E', ?_,k1,k2,k3,k4⟩
     simp only [appendA,hu,hc,hx,hone]
     have hroom' : ¬ (l.length + ys.length ≤ l.length) := hroom
     rw [hz] at hend
     have hle2 : off + l.length * szOf P e ≤ as.length := by omega
     simp [hz,g3,hy0,hn,h0,hsz,hlo,hc,hroom',hle2,hend]
end Go.Sy

/- Appends to symbolic slices are sound, all of them. Generic: over any program. -/
namespace Go.Sy
open Go.Am
set_option linter.unusedVariables false
set_option linter.unusedSimpArgs false
variable {C : Codec} {E : Env} {P : Program}
theorem get_push {H : Heap} {blk : ABlk} : (H ++ [some blk])[H.length]? = some (some blk) := by simp
theorem set_same {H : Heap} {b : Nat} {blk x : ABlk} (h : H[b]? = some (some x)) : (H.set b (some blk))[b]? = some (some blk) := by rw [List.getElem?_set,if_pos rfl,if_pos (lt_of_some h)]
theorem SimH.pushEnd {lo wlo : Nat} {h : SH C} {H : Heap} (hS : SimH E lo wlo h H) (o' : Obj C.T) (a : AVal) (blk : ABlk)
 (ho : LeN h.length H.length E (E.put h.length (some H.length) a h.length) → ObjOk (E.put h.length (some H.length) a h.length) (H ++ [some blk]) h.length o') :
 LeN h.length H.length E (E.put h.length (some H.length) a h.length) ∧ SimH (E.put h.length (some H.length) a h.length) lo wlo (h ++ [some o']) (H ++ [some blk]) :=
 hS.push H.length o' a H.length (by simp) hS.ll (Nat.le_refl _) (.inl (by simp)) (by simp) (fun b hb hne => List.getElem?_append_left hb) ho
theorem appendCells_ok {lo wlo : Nat} {t u e : TypeId} (hA : AppOk P t u e) {h : SH C} {H : Heap} (hS : SimH E lo wlo h H) {rows : List (List (SV C.T))} {rA : List (List AVal)} {s x : SV C.T} {a b : AVal} (ha : Er E s a) (hx : rowsA H (szOf P e) b = some rA)
 (hr : RowsEr E (szOf P e) rows rA) (hone : rows.flatten.all oneS = true) {K : SV C.T → SH C → Tree}
 (hh : (match s with
  | .a .nils =>
   if rows.length = 0 then K (.a .nils) h
   else if rows.length * P.bytesOf e ≤ 140737488355328 then K (.sl (szOf P e) h.length 0 rows.length rows.length false) (h ++ [some (.cells rows.flatten)])
   else .stuck "append: size"
  | .sl s0 id off len cap ex =>
   if s0 ≠ szOf P e then .stuck "append: size" else
   match hget h id with
   | some (.cells cs) =>
    if off + len * szOf P e ≤ cs.length then
     if rows.length = 0 then K (.sl s0 id off len cap ex) h
     else if len + rows.length ≤ cap then
      if wlo ≤ id ∧ off + (len + rows.length) * szOf P e ≤ cs.length then
       K (.sl (szOf P e) id off (len + rows.length) cap ex) (h.set id (some (.cells (cs.take (off + len * szOf P e) ++ rows.flatten ++ cs.drop (off + len * szOf P e + rows.flatten.length)))))
      else .stuck "append: not one's own"
     else if (len + rows.length) * P.bytesOf e ≤ 140737488355328 then
      bif ex then K (.sl (szOf P e) h.length 0 (len + rows.length) (len + rows.length) false) (h ++ [some (.cells ((cs.drop off).take (len * szOf P e) ++ rows.flatten))])
      else if wlo ≤ id ∧ off + len * szOf P e = cs.length then K (.sl (szOf P e) h.length 0 (len + rows.length) (len + rows.length) false) (h.set id none ++ [some (.cells (cs.drop off ++ rows.flatten))])
      else .stuck "append: not one's own"
     else .stuck "append: size"
    else .stuck "append: size"
   | _ => .stuck "append: gone"
  | _ => .stuck "append: to what" : Tree).holds) : Out E lo wlo h H (fun v H' => appendA P lo t u H a b = some (v,H')) K := by
 obtain ⟨hu,hc⟩ := hA
 have hn : rA.length = rows.length := hr.1.symm
 have hfl : rA.flatten.length = rows.length * szOf P e := by rw [flat_len hr.lens,hn]
 have hE := hr.flatten
 have hoA := oneS_all hE hone
 split at hh
 ·rename_i ha
  cases ha
  split at hh
  ·rename_i h0
   refine ⟨.nils,H,.a .nils,h,E, ?_,LeN.refl _ _,Nat.le_refl _,hS,Nat.le_refl _,.a _,hh⟩
   simp only [appendA,hu,hc,hx,hoA]
   simp [hn,h0,hc]
  ·rename_i h0
   split at hh
   ·rename_i hsz
    have hp := hS.pushEnd (.cells rows.flatten) (.sl (szOf P e) H.length 0 rows.length rows.length false) (.cells rA.flatten) (fun hle => ⟨H.length,_,by simp [Env.put],by simp [Env.put],get_push,hE.mono hle.le⟩)
    refine ⟨_,_,_,_,_, ?_,hp.1,by simp,hp.2,by simp,.sl (b := H.length) (by simp [Env.put]),hh⟩
    simp only [appendA,hu,hc,hx,hoA]
    simp [hn,h0,hc,hsz]
   ·exact (stuck_no hh).elim
 ·rename_i s0 id off len cap ex ha
  split at hh
  ·exact (stuck_no hh).elim
  ·rename_i hs0
   have hs0 : s0 = szOf P e := Decidable.of_not_not hs0
   subst hs0
   split at hh
   ·rename_i cs ho
    split at hh
    ·rename_i hle
     cases ha with
     | sl hb =>
      rename_i bb hsold
      have hid := hget_some ho
      obtain ⟨b',as,g1,gw,g2,g3⟩ := hS.obj id _ hid
      rw [hb] at g1
      simp only [Option.some.injEq] at g1
      subst g1
      have hl := g3.1
      split at hh
      ·rename_i h0
       refine ⟨_,H,_,h,E, ?_,LeN.refl _ _,Nat.le_refl _,hS,Nat.le_refl _,.sl hb,hh⟩
       simp only [appendA,hu,hc,hx,hoA]
       simp [hn,h0,hc,g2]
       omega
      ·rename_i h0
       split at hh
       ·rename_i hroom
        split at hh
        ·rename_i hw
         have hlo := hS.low id bb hw.1 hb
         refine ⟨_,H.set bb (some (.cells (splice as (off + len * szOf P e) rA.flatten))),_,_,E, ?_,LeN.refl _ _,by simp,hS.upd hid (by simp) ?_ ?_,by simp,.sl hb,hh⟩
         ·simp only [appendA,hu,hc,hx,hoA]
          simp [hn,h0,hc,g2,hroom,hlo]
          rw [← hl]
          exact ⟨by omega,hw.2⟩
         ·intro q hq hne
          rw [List.getElem?_set] at hne
          split at hne
          ·rename_i e; rw [← e]; exact hb
          ·exact (hne rfl).elim
         ·refine ⟨bb,_,hb,gw,set_same g2, ?_⟩
          unfold splice
          rw [← hE.1]
          exact ((g3.take _).append hE).append (g3.drop _)
        ·exact (stuck_no hh).elim
       ·rename_i hroom
        split at hh
        ·rename_i hsz
         cases hex : ex with
         | true =>
          subst hex
          simp only [cond_true] at hh
          have hp := hS.pushEnd (.cells ((cs.drop off).take (len * szOf P e) ++ rows.flatten)) (.sl (szOf P e) H.length 0 (len + rows.length) (len + rows.length) false) (.cells ((as.drop off).take (len * szOf P e) ++ rA.flatten))
           (fun hle => ⟨H.length,_,by simp [Env.put],by simp [Env.put],get_push,(((g3.drop off).take _).append hE).mono hle.le⟩)
          refine ⟨_,_,_,_,_, ?_,hp.1,by simp,hp.2,by simp,.sl (b := H.length) (by simp [Env.put]),hh⟩
          simp only [appendA,hu,hc,hx,hoA]
          simp [hn,h0,hc,g2,hroom,hsz]
          omega
         | false =>
          subst hex
          simp only [cond_false] at hh
          split at hh
          ·rename_i hw
           have hlo := hS.low id bb hw.1 hb
           have hblt := lt_of_some g2
           have hp := hS.put (H' := H.set bb none ++ [some (.cells (as.drop off ++ rA.flatten))]) id (.cells (cs.drop off ++ rows.flatten)) (some H.length) (.sl (szOf P e) H.length 0 (len + rows.length) (len + rows.length) false) h.length (by simp)
            (fun q hq hne => by
             rw [List.getElem?_append_left (by simpa using hq),List.getElem?_set] at hne
             split at hne
             ·rename_i e1
              subst e1
              exact ⟨fun cs hfr => (hS.fr _ cs hfr).2 id _ hid hb,fun i o hi hio hbi => hi (hS.inj i id o _ _ hio hid hbi hb)⟩
             ·exact (hne rfl).elim)
            (fun q hq => by
             simp only [Option.some.injEq] at hq
             subst hq
             refine ⟨by simp,hS.ll,fun cs hfr => ?_,fun i o hi hio hbi => ?_,.inl ⟨?_,Nat.le_refl _⟩⟩
             ·have := lt_of_some (hS.fr _ cs hfr).1; omega
             ·have := hS.bnd i _ hbi; omega
             ·cases hwn : E.ω H.length with
              | none => rfl
              | some r => have := (hS.own _ r hwn).1; omega)
            (fun hle => ⟨H.length,_,by simp [Env.put],by simp [Env.put],by rw [List.getElem?_append_right (by simp)]; simp,((g3.drop off).append hE).mono hle.le⟩)
           refine ⟨_,_,_,_,_, ?_,hp.1,by simp,hp.2,by simp,.sl (b := H.length) (by simp [Env.put]),hh⟩
           simp only [appendA,hu,hc,hx,hoA]
           simp [hn,h0,hc,g2,hroom,hsz,hlo,← hl,hw.2]
          ·exact (stuck_no hh).elim
        ·exact (stuck_no hh).elim
    ·exact (stuck_no hh).elim
   ·exact (stuck_no hh).elim
 ·exact (stuck_no hh).elim
theorem chunk_flatten' {z : Nat} : ∀ {n : Nat} {as : List AVal},as.length = n * z → (chunk z n as).flatten = as
 | 0,as,h => by simp at h; subst h; rfl
 | n + 1,as,h => by
  simp only [chunk,List.flatten_cons]
  rw [chunk_flatten' (n := n) (by rw [List.length_drop,h,Nat.succ_mul]; omega),List.take_append_drop]
theorem castL_eq {n m : Nat} (em : n = m) (l : List (C.T n)) : (castL em l).map (C.enc m) = l.map (C.enc n) ∧ (castL em l).length = l.length := by
 subst em
 exact ⟨rfl,rfl⟩
theorem appendX_ok (hC : CodecOk C) {lo wlo : Nat} {t u : TypeId} {h : SH C} {H : Heap} (hS : SimH E lo wlo h H) {s x : SV C.T} {a b : AVal} (ha : Er E s a) (hb : Er E x b) {K : SV C.T → SH C → Tree} (hh : (appendX P wlo t u h s x K).holds) :
 Out E lo wlo h H (fun v H' => appendA P lo t u H a b = some (v,H')) K := by
 unfold appendX at hh
 split at hh
 case h_2 => exact (stuck_no hh).elim
 rename_i e hu
 split at hh
 case isFalse => exact (stuck_no hh).elim
 rename_i hc
 have hA : AppOk P t u e := ⟨hu,hc⟩
 split at hh
 ·exact (stuck_no hh).elim
 ·rename_i rows hsrc
  obtain ⟨rA,hx,hr⟩ := srcS_ok hC hS hb hsrc (by intro e; cases e)
  have hr : RowsEr E (szOf P e) rows rA := hr
  split at hh
  ·exact (stuck_no hh).elim
  ·rename_i hone
   have hone : rows.flatten.all oneS = true := by simpa using hone
   split at hh
   ·exact appendCells_ok hA hS (s := .a .nils) (x := x) ha hx hr hone hh
   ·rename_i s0 id off len cap ex
    exact appendCells_ok hA hS (s := .sl s0 id off len cap ex) (x := x) ha hx hr hone hh
   ·rename_i id
    split at hh
    ·rename_i n l full root ho
     split at hh
     ·rename_i hw
      split at hh
      ·exact (stuck_no hh).elim
      ·rename_i xs hxs
       have hr' : RowsEr E (C.sz n) (xs.map (C.enc n)) rA := by
        rw [hw.1]
        exact decAll_ok hC hr hxs
       split at hh
       ·-- nothing
        have hr0 : rA = [] := List.eq_nil_of_length_eq_zero (by rw [← hr'.1]; rfl)
        subst hr0
        cases ha with
        | R hg hs =>
         refine ⟨a,H,_,h,E, ?_,LeN.refl _ _,Nat.le_refl _,hS,Nat.le_refl _,.R hg hs,hh⟩
         rcases hS.obj id _ (hget_some ho) with ⟨rfl,hb0,a',g1,g2⟩ | ⟨b,off,cap,ex,as,g1,g2,gw,g3,g4,g5,g6,g7,g8⟩
         ·rw [hg] at g1
          simp only [Option.some.injEq] at g1
          subst g1
          rcases g2 with rfl | rfl
          ·simp [appendA,hu,hc,hx]
          ·simp [appendA,hu,hc,hx,hw.1]
         ·rw [hg] at g1
          simp only [Option.some.injEq] at g1
          subst g1
          have hcap := Nat.mul_le_mul_right (C.sz n) g4
          simp only [appendA,hu,hc,hx]
          simp [hw.1,g3,hc]
          rw [← hw.1]
          omega
       ·rename_i y ys
        split at hh
        ·rename_i hf
         obtain ⟨hsz,hk⟩ := hh
         obtain ⟨v,H',E',k1,k2,k3,k4,k5⟩ := appendRows_ok hC hA hS ho hw.1 hw.2 ha hx hr' (hf.imp_right fun h => by simp only [List.length_cons]; omega) hsz
         exact ⟨v,H',_,_,E',k1,k2,by simp,k3,k4,k5,hk⟩
        ·exact (stuck_no hh).elim
     ·exact (stuck_no hh).elim
    ·exact (stuck_no hh).elim
   ·exact (stuck_no hh).elim
 ·rename_i n l' hsrc
  obtain ⟨rA,hx,hz,hr⟩ := srcS_ok hC hS hb hsrc (by intro e; cases e)
  have hn : rA.length = l'.length := by rw [← hr.1]; simp
  have hoA : rA.flatten.all AVal.one = true := oneS_all (by rw [← hz] at *; exact hr.flatten) (enc_one hC l')
  rw [← hz] at hr
  have hfl : rA.flatten.length = l'.length * C.sz n := by rw [flat_len hr.lens,hn]
  split at hh
  ·cases ha
   obtain ⟨hsz,hk⟩ := hh
   by_cases h0 : l'.length = 0
   ·have hl0 : l' = [] := List.eq_nil_of_length_eq_zero h0
    subst hl0
    have hr0 : rA = [] := List.eq_nil_of_length_eq_zero (by rw [hn]; rfl)
    subst hr0
    have e1 : h.set h.length none = h := by
     apply List.ext_getElem?
     intro j
     rw [List.getElem?_set]
     split
     ·rename_i hj; subst hj; simp
     ·rfl
    have hput := hS.put (H' := H) h.length (.rows n [] true h.length) none .nils h.length (Nat.le_refl _) (fun b _ hne => (hne rfl).elim) (fun b hb => by cases hb) (fun hle => .inl ⟨rfl,by simp [Env.put],.nils,by simp [Env.put],.inl rfl⟩)
    rw [e1] at hput
    refine ⟨.nils,H,_,_,_, ?_,hput.1,by simp,hput.2,Nat.le_refl _,.R (by simp [Env.put]) rfl,hk⟩
    simp [appendA,hu,hc,hx]
   ·have hp := hS.pushEnd (.rows n l' true h.length) (.sl (szOf P e) H.length 0 l'.length l'.length false) (.cells rA.flatten) (fun hle => by
     have := new_rows hC (E' := E.put h.length (some H.length) (.sl (szOf P e) H.length 0 l'.length l'.length false) h.length) (H' := H ++ [some (.cells rA.flatten)]) (id := h.length) (p := H.length) (root := h.length) (l := l') (full := true)
      (by simp [Env.put,hz]) (by simp [Env.put]) (by simp [Env.put]) get_push (hr.mono hle.le)
     exact this)
    refine ⟨.sl (szOf P e) H.length 0 l'.length l'.length false,_,_,_,_, ?_,hp.1,by simp,hp.2,by simp,.R (by simp [Env.put]) rfl,hk⟩
    simp only [appendA,hu,hc,hx,hoA]
    simp [hn,h0,hc,hsz]
  ·rename_i id
   split at hh
   ·rename_i m l full root ho
    split at hh
    ·rename_i hw
     split at hh
     ·rename_i em
      obtain ⟨hsz,hk⟩ := hh
      obtain ⟨c1,c2⟩ := castL_eq em l'
      have hr' : RowsEr E (C.sz m) ((castL em l').map (C.enc m)) rA := by
       rw [c1,← em]
       exact hr
      obtain ⟨v,H',E',k1,k2,k3,k4,k5⟩ := appendRows_ok hC hA hS ho hw.1 hw.2.1 ha hx hr' (.inl hw.2.2) (by rw [c2]; exact hsz)
      exact ⟨v,H',_,_,E',k1,k2,by simp,k3,k4,k5,hk⟩
     ·exact (stuck_no hh).elim
    ·exact (stuck_no hh).elim
   ·exact (stuck_no hh).elim
  ·rename_i s0 id off len cap ex
   split at hh
   ·rename_i cs ho
    split at hh
    ·rename_i hcond
     obtain ⟨rfl,hw,hend,rfl,rfl⟩ := hcond
     split at hh
     ·exact (stuck_no hh).elim
     ·rename_i xs hxs
      obtain ⟨hsz,hk⟩ := hh
      cases ha with
      | sl hb2 =>
       rename_i bb
       have hid := hget_some ho
       obtain ⟨b',as,g1,gw,g2,g3⟩ := hS.obj id _ hid
       rw [hb2] at g1
       simp only [Option.some.injEq] at g1
       subst g1
       have hl := g3.1
       have hlo := hS.low id bb hw hb2
       have hblt := lt_of_some g2
       have hch := decAll_ok hC (chunkS_ok (n := cap) (z := szOf P e) (g3.drop off) (by simp; omega)) hxs
       rw [← hz] at hch
       have hxl : xs.length = cap := by
        have := hch.1
        rw [chunk_len] at this
        simpa using this
       have hcf : (chunk (C.sz n) cap (as.drop off)).flatten = as.drop off := chunk_flatten' (by rw [hz]; simp; omega)
       have hpre : RowsAt E n xs (as.drop off) 0 := RowsAt.of_flat hC hch fun k hk => by rw [Nat.zero_add,hcf]
       have hdl : (as.drop off).length = xs.length * C.sz n := by rw [hxl,hz]; simp; omega
       by_cases h0 : l'.length = 0
       ·have hl0 : l' = [] := List.eq_nil_of_length_eq_zero h0
        subst hl0
        have hr0 : rA = [] := List.eq_nil_of_length_eq_zero (by rw [hn]; rfl)
        subst hr0
        have hput := hS.put (H' := H) id (.rows n (xs ++ []) true id) (some bb) (.sl (szOf P e) bb off cap cap false) id (Nat.le_refl _) (fun b _ hne => (hne rfl).elim) (fun b' hb => by
         simp only [Option.some.injEq] at hb
         subst hb
         exact ⟨hblt,hlo,fun cs hfr => (hS.fr _ cs hfr).2 id _ hid hb2,fun i o hi hio hbi => hi (hS.inj i id o _ _ hio hid hbi hb2),.inr gw⟩)
         (fun hle => .inr ⟨bb,off,cap,false,as,by simp [Env.put,hxl,hz],by simp [Env.put],by simp [Env.put],g2,by simp [hxl],by rw [hz]; omega,.inr (by rw [hz]; omega),fun _ => .inr (by simp [hxl]),by
          rw [List.append_nil]
          intro i y j xx aa q1 q2 q3
          refine (hpre.mono hle.le) i y j xx aa q1 q2 ?_
          rw [List.getElem?_drop,Nat.zero_add,← Nat.add_assoc]
          exact q3⟩)
        refine ⟨.sl (szOf P e) bb off cap cap false,H,_,_,_, ?_,hput.1,by simp,hput.2,Nat.le_refl _,.R (by simp [Env.put]) rfl,hk⟩
        simp only [appendA,hu,hc,hx]
        simp [g2,hc]
        omega
       ·have hp := hS.put (H' := H.set bb none ++ [some (.cells (as.drop off ++ rA.flatten))]) id (.rows n (xs ++ l') true id) (some H.length) (.sl (szOf P e) H.length 0 (cap + l'.length) (cap + l'.length) false) id (by simp)
         (fun q hq hne => by
          rw [List.getElem?_append_left (by simpa using hq),List.getElem?_set] at hne
          split at hne
          ·rename_i e1
           subst e1
           exact ⟨fun cs hfr => (hS.fr _ cs hfr).2 id _ hid hb2,fun i o hi hio hbi => hi (hS.inj i id o _ _ hio hid hbi hb2)⟩
          ·exact (hne rfl).elim)
         (fun q hq => by
          simp only [Option.some.injEq] at hq
          subst hq
          refine ⟨by simp,hS.ll,fun cs hfr => ?_,fun i o hi hio hbi => ?_,.inl ⟨?_,Nat.le_refl _⟩⟩
          ·have := lt_of_some (hS.fr _ cs hfr).1; omega
          ·have := hS.bnd i _ hbi; omega
          ·cases hwn : E.ω H.length with
           | none => rfl
           | some r => have := (hS.own _ r hwn).1; omega)
         (fun hle => .inr ⟨H.length,0,cap + l'.length,false,as.drop off ++ rA.flatten,by simp [Env.put,hxl,hz],by simp [Env.put],by simp [Env.put],by rw [List.getElem?_append_right (by simp)]; simp,by simp [hxl],
          by rw [List.length_append,hdl,hfl,hxl,Nat.add_mul]; omega,.inr (by rw [List.length_append,hdl,hfl,hxl,Nat.add_mul]; omega),fun _ => .inr (by simp [hxl]),by
          refine RowsAt.append hC (hpre.mono hle.le) (hr.mono hle.le) ?_ ?_
          ·intro k hk
           rw [Nat.zero_add,List.getElem?_append_left (by omega)]
          ·intro k hk
           rw [Nat.zero_add,List.getElem?_append_right (by omega),hdl,Nat.add_sub_cancel_left]⟩)
        refine ⟨.sl (szOf P e) H.length 0 (cap + l'.length) (cap + l'.length) false,_,_,_,_, ?_,hp.1,by simp,hp.2,by simp,.R (by simp [Env.put]) rfl,hk⟩
        have hsz' : (cap + l'.length) * P.bytesOf e ≤ 140737488355328 := by rw [← hxl]; exact hsz
        simp only [appendA,hu,hc,hx,hoA]
        simp [hn,h0,hc,g2,hlo,← hl,hend,hsz']
        omega
    ·exact (stuck_no hh).elim
   ·exact (stuck_no hh).elim
  ·exact (stuck_no hh).elim
end Go.Sy

/- Cuts of slices, and all quiet operations at once. Generic: over any program. -/
namespace Go.Sy
open Go.Am
set_option linter.unusedVariables false
set_option linter.unusedSimpArgs false
variable {C : Codec} {E : Env} {P : Program}
inductive ErO (E : Env) : Option (SV C.T) → Option AVal → Prop
 | none : ErO E none none
 | some {x : SV C.T} {a : AVal} : Er E x a → ErO E (some x) (some a)
theorem bndN_bound {d : Nat} {x : Option (SV C.T)} {a : Option AVal} {r y : Nat} (hx : ErO E x a) (h : bndN d x = some r) (hr : r ≤ y) : boundA d y a = some r := by
 cases hx with
 | none => simp only [bndN,Option.some.injEq] at h; subst h; rfl
 | some hx =>
  unfold bndN at h
  split at h
  ·rename_i e; cases e
  ·rename_i k m e
   simp only [Option.some.injEq] at h e
   subst h e
   cases hx
   simp [boundA,idxA,hr]
  ·cases h
theorem bndI_bound {d : Int} {x : Option (SV C.T)} {a : Option AVal} {r : Int} {y : Nat} (hx : ErO E x a) (h : bndI d x = some r) (h0 : 0 ≤ r) (hr : r ≤ (y : Int)) : boundA d.toNat y a = some r.toNat := by
 cases hx with
 | none => simp only [bndI,Option.some.injEq] at h; subst h; rfl
 | some hx =>
  simp only [bndI,Option.map_eq_some_iff] at h
  obtain ⟨⟨k,n⟩,h1,rfl⟩ := h
  rw [intOf_ok hx h1]
  simp only [boundA,idxA,h0,if_true]
  rw [if_pos (by omega)]
theorem litO_ok {x : Option (SV C.T)} {a : Option AVal} {r : Option AVal} (hx : ErO E x a) (h : litO x = some r) : a = r := by
 cases hx with
 | none => simp only [litO,Option.some.injEq] at h; exact h
 | some hx =>
  unfold litO at h
  split at h
  ·rename_i e; cases e
  ·rename_i v e
   simp only [Option.some.injEq] at h e
   subst h e
   cases hx
   rfl
  ·cases h
theorem sliceA_nil {t : TypeId} {H : Heap} {v r : AVal} {lo hi mx : Option AVal} (h : sliceA P t [] v lo hi mx = some r) : sliceA P t H v lo hi mx = some r := by
 unfold sliceA at h ⊢
 split at h
 ·exact h
 ·exact h
 ·split at h
  ·rename_i hc
   rw [if_pos hc]
   split at h
   ·simp at h
   ·exact h
   ·cases h
  ·cases h
 ·cases h
theorem RowsAt.cut {n : Nat} {l : List (C.T n)} {as : List AVal} {off p q : Nat} (h : RowsAt E n l as off) : RowsAt E n ((l.drop p).take q) as (off + p * C.sz n) := by
 intro i y j x a h1 h2 h3
 rw [List.getElem?_take] at h1
 split at h1
 ·rw [List.getElem?_drop] at h1
  refine h (p + i) y j x a h1 h2 ?_
  rw [Nat.add_mul,← Nat.add_assoc]
  exact h3
 ·cases h1
theorem sliceS_ok {lo wlo : Nat} {t : TypeId} {h : SH C} {H : Heap} (hS : SimH E lo wlo h H) {x : SV C.T} {a : AVal} {l u m : Option (SV C.T)} {l' u' m' : Option AVal} (hx : Er E x a) (hl : ErO E l l') (hu : ErO E u u') (hm : ErO E m m') {K : SV C.T → SH C → Tree} (hh : (sliceS P wlo t h x l u m K).holds) :
 Out E lo wlo h H (fun v H' => sliceA P t H a l' u' m' = some v ∧ H' = H) K := by
 have str : ∀ {s : List UInt8} {p q : Int},P.underlying t = some .string → m = none → bndI 0 l = some p → bndI s.length u = some q → 0 ≤ p ∧ p ≤ q ∧ q ≤ (s.length : Int) →
  (K (.s ((s.drop p.toNat).take (q.toNat - p.toNat))) h).holds → Out E lo wlo h H (fun v H' => sliceA P t H (.str s) l' u' m' = some v ∧ H' = H) K := by
  intro s p q ht hm0 hp hq hb hk
  subst hm0
  cases hm
  have e1 := bndI_bound (y := s.length) hu hq (by omega) hb.2.2
  have e2 := bndI_bound (y := q.toNat) hl hp hb.1 (by omega)
  simp only [Int.toNat_natCast] at e1
  refine ⟨_,H,_,h,E,⟨?_,rfl⟩,LeN.refl _ _,Nat.le_refl _,hS,Nat.le_refl _,.s _,hk⟩
  simp only [sliceA,ht,e1,Option.bind_some]
  simp only [Int.toNat_zero] at e2
  rw [e2]
  rfl
 unfold sliceS at hh
 split at hh
 ·rename_i v
  split at hh
  ·rename_i l1 u1 m1 e1 e2 e3
   cases hx
   obtain ⟨r,h1,h2⟩ := opt_some hh
   rw [litO_ok hl e1,litO_ok hu e2,litO_ok hm e3]
   exact ⟨r,H,_,h,E,⟨sliceA_nil h1,rfl⟩,LeN.refl _ _,Nat.le_refl _,hS,Nat.le_refl _,.a _,h2⟩
  ·split at hh
   ·rename_i s hs ht hneg
    split at hh
    ·rename_i p q hp hq
     rw [strOf_ok hx hs]
     exact str ht rfl hp hq hh.1 hh.2
    ·exact (stuck_no hh).elim
   ·exact (stuck_no hh).elim
 ·rename_i s
  split at hh
  ·rename_i ht
   split at hh
   ·rename_i p q hp hq
    cases hx
    exact str ht rfl hp hq hh.1 hh.2
   ·exact (stuck_no hh).elim
  ·exact (stuck_no hh).elim
 ·rename_i n ll
  split at hh
  ·rename_i e ht
   split at hh
   ·rename_i hc
    split at hh
    ·split at hh
     ·rename_i p q hp hq
      obtain ⟨⟨hb0,hb1,hb2⟩,hk⟩ := hh
      cases hm
      have e1 := bndI_bound (y := ll.length) hu hq (by omega) hb2
      have e2 := bndI_bound (y := q.toNat) hl hp hb0 (by omega)
      simp only [Int.toNat_natCast,Int.toNat_zero] at e1 e2
      have hlen : ((ll.drop p.toNat).take (q.toNat - p.toNat)).length = q.toNat - p.toNat := by simp; omega
      cases hx with
      | tlN =>
       simp only [List.length_nil] at e1 hb2
       refine ⟨.nils,H,_,h,E,⟨?_,rfl⟩,LeN.refl _ _,Nat.le_refl _,hS,Nat.le_refl _, ?_,hk⟩
       ·simp only [sliceA,ht,hc.1,if_true,e1,Option.bind_some,e2,Option.map_some]
       ·simp only [List.drop_nil,List.take_nil]
        exact .tlN
      | tlL hz hll hs hr =>
       rename_i z rows ex
       refine ⟨.list z ((rows.drop p.toNat).take (q.toNat - p.toNat)) (ex && q.toNat == rows.length),H,_,h,E,⟨?_,rfl⟩,LeN.refl _ _,Nat.le_refl _,hS,Nat.le_refl _, ?_,hk⟩
       ·simp only [sliceA,ht,hc.1,if_true,hz,hc.2,hll,e1,Option.bind_some,e2,Option.map_some]
       ·refine .tlL hz (by simp [hll]) ?_ ?_
        ·intro i r hi
         rw [List.getElem?_take] at hi
         split at hi
         ·rw [List.getElem?_drop] at hi; exact hs _ r hi
         ·cases hi
        ·intro i y r j xx aa h1 h2 h3 h4
         rw [List.getElem?_take] at h1 h2
         split at h1
         ·rename_i hlt
          rw [if_pos hlt] at h2
          rw [List.getElem?_drop] at h1 h2
          exact hr _ y r j xx aa h1 h2 h3 h4
         ·cases h1
      | tlS hz hll hf ho hcap hr =>
       rename_i z b off len cap as ex
       subst hll
       refine ⟨.sl z b (off + p.toNat * z) (q.toNat - p.toNat) (cap - p.toNat) ex,H,_,h,E,⟨?_,rfl⟩,LeN.refl _ _,Nat.le_refl _,hS,Nat.le_refl _, ?_,hk⟩
       ·have e1' := bndI_bound (y := cap) hu hq (by omega) (by omega)
        simp only [Int.toNat_natCast] at e1'
        simp only [sliceA,ht,hc.1,if_true,hz,hc.2,e1',Option.bind_some,e2,Option.map_some]
       ·subst hz
        have hmul : p.toNat * C.sz n + (q.toNat - p.toNat) * C.sz n ≤ ll.length * C.sz n := by
         rw [← Nat.add_mul]
         exact Nat.mul_le_mul_right _ (by omega)
        exact .tlS rfl hlen.symm hf (by rw [hlen]; omega) (by rw [hlen]; omega) (RowsAt.cut hr)
     ·exact (stuck_no hh).elim
    ·rename_i mm
     split at hh
     ·rename_i uu e1 e2
      split at hh
      ·rename_i e3
       cases hm with
       | some hmm =>
       cases hu with
       | some huu =>
       rename_i am au
       have b1 : boundA 0 0 l' = some 0 := bndN_bound hl e1 (Nat.le_refl _)
       have b2 : boundA 0 0 (some au) = some 0 := bndN_bound (.some huu) e3 (Nat.le_refl _)
       have b3 : ∀ y,boundA 0 y (some am) = some 0 := fun y => bndN_bound (.some hmm) e2 (Nat.zero_le _)
       have key : ∀ (v : AVal),isSlB v = true → EmptyA E (C.sz n) v → sliceA P t H a l' (some au) (some am) = some v → Out E lo wlo h H (fun v H' => sliceA P t H a l' (some au) (some am) = some v ∧ H' = H) K := by
        intro v hvs hv he
        have hn0 : h.set h.length none = h := by
         apply List.ext_getElem?
         intro j
         rw [List.getElem?_set]
         split
         ·rename_i hj; subst hj; simp
         ·rfl
        have hput := hS.put (H' := H) h.length (.rows n [] true h.length) none v h.length (Nat.le_refl _) (fun b _ hne => (hne rfl).elim) (fun b hb => by cases hb) (fun hle => .inl ⟨rfl,by simp [Env.put],v,by simp [Env.put],hv⟩)
        rw [hn0] at hput
        exact ⟨v,H,_,_,_,⟨he,rfl⟩,hput.1,by simp,hput.2,Nat.le_refl _,.R (by simp [Env.put]) hvs,hh⟩
       cases hx with
       | tlN => exact key .nils rfl (.inl rfl) (by simp only [sliceA,ht,hc.1,if_true,Option.isSome_some,b3,Option.bind_some,b2,b1,Option.map_some])
       | tlL hz hll hs hr =>
        refine key (.list (C.sz n) [] true) rfl (.inr rfl) ?_
        simp only [sliceA,ht,hc.1,if_true,Option.isSome_some,hz,hc.2,and_self,b3,Option.bind_some,b2,b1,Option.map_some]
        simp
       | tlS hz hll hf ho hcap hr =>
        rename_i z b off len cap as ex
        refine key (.list (C.sz n) [] true) rfl (.inr rfl) ?_
        simp only [sliceA,ht,hc.1,if_true,Option.isSome_some,hz,hc.2,and_self,b3,Option.bind_some,b2,b1,Option.map_some]
        simp
      ·exact (stuck_no hh).elim
     ·exact (stuck_no hh).elim
   ·exact (stuck_no hh).elim
  ·exact (stuck_no hh).elim
 ·rename_i id
  split at hh
  ·rename_i e n ll full root ht ho
   split at hh
   ·rename_i hc
    split at hh
    ·rename_i p q hp hq
     obtain ⟨⟨hb0,hb1,hb2⟩,hk⟩ := hh
     cases hm
     have e1 := bndI_bound (y := ll.length) hu hq (by omega) hb2
     have e2 := bndI_bound (y := q.toNat) hl hp hb0 (by omega)
     simp only [Int.toNat_natCast,Int.toNat_zero] at e1 e2
     have hlen : ((ll.drop p.toNat).take (q.toNat - p.toNat)).length = q.toNat - p.toNat := by simp; omega
     have hid := hget_some ho
     cases hx with
     | R hg hs =>
     rcases hS.obj id _ hid with ⟨rfl,hb0',a',g1,g2⟩ | ⟨b,off,cap,ex,as,g1,g2,gw,g3,g4,g5,g6,g7,g8⟩
     ·rw [hg] at g1
      simp only [Option.some.injEq] at g1
      subst g1
      simp only [List.length_nil] at hb2 e1
      have hp0 : p.toNat = 0 := by omega
      have hq0 : q.toNat = 0 := by omega
      rw [hq0] at e1 e2
      rw [hp0] at e2
      have hnew : EmptyA E (C.sz n) a ∧ sliceA P t H a l' u' none = some a := by
       refine ⟨g2, ?_⟩
       rcases g2 with rfl | rfl
       ·simp only [sliceA,ht,hc.1,if_true,e1,Option.bind_some,e2,Option.map_some]
       ·simp only [sliceA,ht,hc.1,if_true,hc.2.1,List.length_nil,e1,Option.bind_some,e2,Option.map_some]
        simp
      have hput := hS.put (H' := H) id (.rows n ((([] : List (C.T n)).drop p.toNat).take (q.toNat - p.toNat)) (full && u.isNone) root) none a root (Nat.le_refl _) (fun b _ hne => (hne rfl).elim) (fun b hb => by cases hb)
       (fun hle => .inl ⟨by simp,by simp [Env.put],a,by simp [Env.put],hnew.1⟩)
      exact ⟨a,H,_,_,_,⟨hnew.2,rfl⟩,hput.1,by simp,hput.2,Nat.le_refl _,.R (by simp [Env.put]) hs,hk⟩
     ·rw [hg] at g1
      simp only [Option.some.injEq] at g1
      subst g1
      have e1' := bndI_bound (y := cap) hu hq (by omega) (by omega)
      simp only [Int.toNat_natCast] at e1'
      have hblt := lt_of_some g3
      have hpc : p.toNat * C.sz n + (cap - p.toNat) * C.sz n = cap * C.sz n := by rw [← Nat.add_mul]; congr 1; omega
      have hput := hS.put (H' := H) id (.rows n ((ll.drop p.toNat).take (q.toNat - p.toNat)) (full && u.isNone) root) (some b) (.sl (C.sz n) b (off + p.toNat * C.sz n) (q.toNat - p.toNat) (cap - p.toNat) ex) root (Nat.le_refl _) (fun b _ hne => (hne rfl).elim)
       (fun b' hb => by
        simp only [Option.some.injEq] at hb
        subst hb
        exact ⟨hblt,hS.low id b hc.2.2 g2,fun cs hfr => (hS.fr _ cs hfr).2 id _ hid g2,fun i o hi hio hbi => hi (hS.inj i id o _ _ hio hid hbi g2),.inr gw⟩)
       (fun hle => .inr ⟨b,off + p.toNat * C.sz n,cap - p.toNat,ex,as,by simp only [Env.put,if_true,hlen],by simp [Env.put],by simp [Env.put],g3,by rw [hlen]; omega,by omega,g6.imp_right fun h => by omega,by
        intro hfu
        simp only [Bool.and_eq_true,Option.isNone_iff_eq_none] at hfu
        rcases g7 hfu.1 with h1 | h1
        ·exact .inl h1
        ·right
         have hun := hfu.2
         subst hun
         simp only [bndI,Option.some.injEq] at hq
         rw [hlen]
         omega,(RowsAt.cut g8).mono hle.le⟩)
      exact ⟨.sl (C.sz n) b (off + p.toNat * C.sz n) (q.toNat - p.toNat) (cap - p.toNat) ex,H,_,_,_,⟨by simp only [sliceA,ht,hc.1,if_true,hc.2.1,e1',Option.bind_some,e2,Option.map_some],rfl⟩,hput.1,by simp,hput.2,Nat.le_refl _,.R (by simp [Env.put]) rfl,hk⟩
    ·exact (stuck_no hh).elim
   ·exact (stuck_no hh).elim
  ·exact (stuck_no hh).elim
 ·rename_i sz id off len cap ex
  split at hh
  ·rename_i e ht
   split at hh
   ·rename_i hc
    obtain ⟨hc1,rfl⟩ := hc
    cases hx with
    | sl hb =>
    rename_i b
    split at hh
    ·cases hm
     split at hh
     ·rename_i p q hp hq
      split at hh
      ·rename_i hb2
       have e1 := bndN_bound (y := cap) hu hq hb2.2
       have e2 := bndN_bound (y := q) hl hp hb2.1
       exact ⟨_,H,_,h,E,⟨by simp only [sliceA,ht,hc1,if_true,e1,Option.bind_some,e2,Option.map_some],rfl⟩,LeN.refl _ _,Nat.le_refl _,hS,Nat.le_refl _,.sl hb,hh⟩
      ·exact (stuck_no hh).elim
     ·exact (stuck_no hh).elim
    ·rename_i mm
     split at hh
     ·rename_i p uu q' hp hq'
      split at hh
      ·rename_i q hq
       split at hh
       ·rename_i hb2
        cases hm with
        | some hmm =>
        cases hu with
        | some huu =>
        have e0 := bndN_bound (y := cap) (.some hmm) hq' hb2.2.2
        have e1 := bndN_bound (y := q') (.some huu) hq hb2.2.1
        have e2 := bndN_bound (y := q) hl hp hb2.1
        by_cases hmp : q' ≤ p
        ·have : Nat.ble q' p = true := by rw [Nat.ble_eq]; exact hmp
         rw [this] at hh
         exact ⟨_,H,_,h,E,⟨by simp only [sliceA,ht,hc1,if_true,Option.isSome_some,and_self,e0,e1,Option.bind_some,e2,Option.map_some]; rw [if_pos hmp],rfl⟩,LeN.refl _ _,Nat.le_refl _,hS,Nat.le_refl _,.a _,hh⟩
        ·have : Nat.ble q' p = false := by rw [Bool.eq_false_iff]; intro e; rw [Nat.ble_eq] at e; exact hmp e
         rw [this] at hh
         exact ⟨_,H,_,h,E,⟨by simp only [sliceA,ht,hc1,if_true,Option.isSome_some,and_self,e0,e1,Option.bind_some,e2,Option.map_some]; rw [if_neg hmp],rfl⟩,LeN.refl _ _,Nat.le_refl _,hS,Nat.le_refl _,.sl hb,hh⟩
       ·exact (stuck_no hh).elim
      ·exact (stuck_no hh).elim
     ·exact (stuck_no hh).elim
   ·exact (stuck_no hh).elim
  ·exact (stuck_no hh).elim
 ·rename_i id off
  split at hh
  ·rename_i n e cs ht ho
   split at hh
   ·rename_i hc
    split at hh
    ·rename_i p q hp hq
     split at hh
     ·rename_i hb2
      cases hm
      cases hx with
      | ptr hb =>
      obtain ⟨b',as,g1,gw,g2,g3⟩ := hS.obj id _ (hget_some ho)
      rw [hb] at g1
      simp only [Option.some.injEq] at g1
      subst g1
      have hll := g3.1
      have e1 := bndN_bound (y := n) hu hq hb2.2
      have e2 := bndN_bound (y := q) hl hp hb2.1
      refine ⟨_,H,_,h,E,⟨?_,rfl⟩,LeN.refl _ _,Nat.le_refl _,hS,Nat.le_refl _,.sl hb,hh⟩
      simp only [sliceA,ht,hc.1,Option.isNone_none,and_self,if_true,g2]
      rw [if_pos (by omega),e1,Option.bind_some,e2]
      rfl
     ·exact (stuck_no hh).elim
    ·exact (stuck_no hh).elim
   ·exact (stuck_no hh).elim
  ·exact (stuck_no hh).elim
 ·exact (stuck_no hh).elim
end Go.Sy

/- Operations one behind the other over symbolic values are sound. Generic: over any program. -/
namespace Go.Sy
open Go.Am
set_option linter.unusedVariables false
set_option linter.unusedSimpArgs false
variable {C : Codec} {E : Env}
theorem ErO.map {ev : Operand → SV C.T} {ea : Operand → AVal} (hev : ∀ x,Er E (ev x) (ea x)) (o : Option Operand) : ErO E (o.map ev) (o.map ea) := by
 cases o with
 | none => exact .none
 | some x => exact .some (hev x)
theorem Ers.map {ev : Operand → SV C.T} {ea : Operand → AVal} (hev : ∀ x,Er E (ev x) (ea x)) : ∀ (l : List Operand),Ers E (l.map ev) (l.map ea)
 | [] => Ers.nil
 | x :: l => (Ers.map hev l).cons (hev x)
theorem quietX_ok {S : AStat} (hC : CodecOk C) {lo wlo : Nat} {ρ : List AVal} {ev : Operand → SV C.T} (hev : ∀ x,Er E (ev x) (evalA S ρ x)) {h : SH C} {H : Heap} (hS : SimH E lo wlo h H) {op : Op} {K : SV C.T → SH C → Tree} (hh : (quietX S wlo ev h op K).holds) :
 Out E lo wlo h H (fun v H' => quietA S ρ H op = some v ∧ H' = H) K := by
 have ret : ∀ {x : Option AVal} {a : AVal} {sv : SV C.T},x = some a → Er E sv a → (K sv h).holds → Ret E x (fun v => K v h) := fun h1 h2 h3 => ⟨_,_,h1,h2,h3⟩
 unfold quietX at hh
 split at hh
 ·exact .of_ret hS (ret rfl (hev _) hh)
 ·exact .of_ret hS (ret rfl (hev _) hh)
 ·rename_i c a b
  refine .of_ret hS ?_
  have hc := hev c
  unfold pickS at hh
  split at hh
  ·rename_i e
   rw [e] at hc
   generalize hv : evalA S ρ c = v at hc
   cases hc
   exact ret (by simp only [quietA,hv]) (hev a) hh
  ·rename_i e
   rw [e] at hc
   generalize hv : evalA S ρ c = v at hc
   cases hc
   exact ret (by simp only [quietA,hv]) (hev b) hh
  ·rename_i t e
   rw [e] at hc
   generalize hv : evalA S ρ c = v at hc
   cases hc
   rcases fork_cases hh with ⟨rfl,h1⟩ | ⟨rfl,h1⟩
   ·exact ret (by simp only [quietA,hv]) (hev a) h1
   ·exact ret (by simp only [quietA,hv]) (hev b) h1
  ·exact (stuck_no hh).elim
 ·rename_i t parts
  have hp : PartsOk E (parts.toList.map fun p => (p.1,ev p.2)) (parts.toList.map fun p => (p.1,evalA S ρ p.2)) := by
   generalize parts.toList = l
   induction l with
   | nil => exact .nil
   | cons p l ih => exact .cons (hev p.2) ih
  exact .of_ret hS (buildS_ok hp hh)
 ·exact .of_ret hS (loadS_ok hC hS (hev _) hh)
 ·rename_i x
  refine .of_ret hS ?_
  have hx := hev x
  unfold nilCheckS at hh
  split at hh
  ·rename_i e
   rw [e] at hx
   generalize hv : evalA S ρ x = v at hx
   cases hx with
   | ptr hb => exact ret (by simp only [quietA,hv,nilCheckA]) (.ptr hb) hh
  ·rename_i e
   rw [e] at hx
   generalize hv : evalA S ρ x = v at hx
   cases hx with
   | ep hb => exact ret (by simp only [quietA,hv,nilCheckA]) (.ep hb) hh
  ·rename_i e
   rw [e] at hx
   generalize hv : evalA S ρ x = v at hx
   cases hx with
   | fpI e1 hl hr => exact ret (by simp only [quietA,hv,nilCheckA]) (.fpI e1 hl hr) hh
   | fpP hf e1 hl hr => exact ret (by simp only [quietA,hv,nilCheckA]) (.fpP hf e1 hl hr) hh
  ·rename_i e
   rw [e] at hx
   generalize hv : evalA S ρ x = v at hx
   cases hx with
   | fn h1 h2 h3 h4 => exact ret (by simp only [quietA,hv,nilCheckA]) (.fn h1 h2 h3 h4) hh
  ·rename_i e
   rw [e] at hx
   generalize hv : evalA S ρ x = v at hx
   cases hx
   obtain ⟨r,h1,h2⟩ := opt_some hh
   exact ret (by simp only [quietA,hv]; exact h1) (.a _) h2
  ·exact (stuck_no hh).elim
 ·exact .of_ret hS (binS_ok (hev _) (hev _) hh)
 ·exact .of_ret hS (unS_ok (hev _) hh)
 ·exact .of_ret hS (convS_ok hS (hev _) hh)
 ·rename_i t x
  split at hh
  ·exact (stuck_no hh).elim
  ·rename_i hne
   exact .of_ret hS (ret (by simp only [quietA]; rw [if_neg hne]) (.iface (hev x)) hh)
 ·rename_i f first captured
  refine .of_ret hS (ret rfl ?_ hh)
  have h1 := Ers.map hev first.toList
  have h2 := Ers.map hev captured.toList
  exact .fn h1.1 h1.2 h2.1 h2.2
 ·exact sliceS_ok hS (hev _) (.map hev _) (.map hev _) (.map hev _) hh
 ·exact .of_ret hS (fieldAddrS_ok (hev _) hh)
 ·exact .of_ret hS (fieldS_ok (hev _) hh)
 ·exact .of_ret hS (indexAddrS_ok hC hS (hev _) (hev _) hh)
 ·exact .of_ret hS (indexS_ok (hev _) (hev _) hh)
 ·rename_i x i
  refine .of_ret hS ?_
  have hx := hev x
  unfold extractS at hh
  split at hh
  ·rename_i e
   rw [e] at hx
   generalize hv : evalA S ρ x = v at hx
   cases hx with
   | tup hl hr =>
    obtain ⟨r,h1,h2⟩ := opt_some hh
    have hE : Ers E _ _ := ⟨hl,hr⟩
    obtain ⟨w,h3,h4⟩ := hE.get h1
    exact ret (by simp only [quietA,hv]; exact h3) h4 h2
  ·rename_i e
   rw [e] at hx
   generalize hv : evalA S ρ x = v at hx
   cases hx
   obtain ⟨r,h1,h2⟩ := opt_some hh
   exact ret (by simp only [quietA,hv]; exact h1) (.a _) h2
  ·exact (stuck_no hh).elim
 ·exact .of_ret hS (lookupS_ok hS (hev _) (hev _) hh)
 ·exact .of_ret hS (typeAssertS_ok (hev _) hh)
 ·rename_i c
  obtain ⟨callee,args,ts⟩ := c
  simp only at hh
  have mn : ∀ {mx : Bool},(minS mx (args.toList.map ev) fun v => K v h).holds → ∃ k m k' n,args.toList.map (evalA S ρ) = [.int k m,.int k' n] ∧ ∃ sv,Er E sv (.int k (bif mx then (if m < n then n else m) else (if n < m then n else m))) ∧ (K sv h).holds := by
   intro mx hm
   unfold minS at hm
   split at hm
   ·rename_i x y e
    have hE := Ers.map hev args.toList
    rw [e] at hE
    obtain ⟨a,as,e1,h1,hE⟩ := hE.inv_cons
    obtain ⟨b,bs,e2,h2,hE⟩ := hE.inv_cons
    obtain rfl := hE.inv_nil
    subst e2
    split at hm
    ·rename_i k m k' n q1 q2
     rw [intOf_ok h1 q1,intOf_ok h2 q2] at e1
     refine ⟨k,m,k',n,e1, ?_⟩
     cases hl : isLit x && isLit y with
     | true => rw [hl] at hm; exact ⟨_,.a _,hm⟩
     | false => rw [hl] at hm; exact ⟨_,.i _ _,hm⟩
    ·exact (stuck_no hm).elim
   ·exact (stuck_no hm).elim
  split at hh
  ·split at hh
   ·rename_i t x h1 h2
    have := lenS_ok hS (hev x) hh
    exact .of_ret hS (by simp only [quietA,h1,h2]; exact this)
   ·exact (stuck_no hh).elim
  ·obtain ⟨k,m,k',n,e,sv,h1,h2⟩ := mn hh
   exact .of_ret hS (ret (by simp only [quietA,e]; rfl) h1 h2)
  ·obtain ⟨k,m,k',n,e,sv,h1,h2⟩ := mn hh
   exact .of_ret hS (ret (by simp only [quietA,e]; rfl) h1 h2)
  ·exact (stuck_no hh).elim
 ·exact (stuck_no hh).elim
def CallOkX (S : AStat) (call : CallX C) : Prop := ∀ (E : Env) (lo wlo : Nat) (f : FuncId) (args : List (SV C.T)) (h : SH C) (H : Heap) (K : SV C.T → SH C → Tree) (av : List AVal),(call wlo f args h K).holds → SimH E lo wlo h H → Ers E args av →
 Out E lo wlo h H (fun v H' => ∃ n,callA S (execA S n) lo f av H = some (v,H')) K
def ExtNo (S : AStat) (noExt : FuncId → Bool) : Prop := ∀ f,noExt f = true → ∀ as,S.ext f as = none
theorem litsS_ok {E : Env} : ∀ {xs : List (SV C.T)} {as bs : List AVal},Ers E xs as → litsS xs = some bs → as = bs
 | [],_,_,h,e => by
  rw [h.inv_nil]
  simpa [litsS] using e
 | x :: xs,_,_,h,e => by
  obtain ⟨a,as,rfl,h1,h2⟩ := h.inv_cons
  cases x <;> simp only [litsS,reduceCtorEq] at e
  rw [Option.map_eq_some_iff] at e
  obtain ⟨cs,e1,rfl⟩ := e
  cases h1
  rw [litsS_ok h2 e1]
theorem ifaceS_ok {E : Env} {x v : SV C.T} {a : AVal} {t : TypeId} (h : Er E x a) (e : ifaceS x = some (t,v)) : ∃ w,a = .iface t w ∧ Er E v w := by
 unfold ifaceS at e
 split at e
 ·simp only [Option.some.injEq,Prod.mk.injEq] at e
  obtain ⟨rfl,rfl⟩ := e
  cases h with
  | iface h => exact ⟨_,rfl,h⟩
 ·simp only [Option.some.injEq,Prod.mk.injEq] at e
  obtain ⟨rfl,rfl⟩ := e
  cases h
  exact ⟨_,rfl,.a _⟩
 ·cases e
theorem callG_ok {S : AStat} {noExt : FuncId → Bool} (hE : ExtNo S noExt) {call : CallX C} (hcall : CallOkX S call) {lo wlo : Nat} {h : SH C} {H : Heap} (hS : SimH E lo wlo h H) {g : FuncId} {xs : List (SV C.T)} {av : List AVal} (hA : Ers E xs av) {K : SV C.T → SH C → Tree}
 (hh : (callG S noExt call wlo g xs h K).holds) : Out E lo wlo h H (fun v H' => ∃ n,(match S.ext g av with | some v => some (v,H) | none => callA S (execA S n) lo g av H) = some (v,H')) K := by
 unfold callG at hh
 cases hx : noExt g with
 | true =>
  rw [hx] at hh
  refine (hcall E lo wlo g _ h H K _ hh hS hA).mono ?_
  rintro r H' ⟨n,h3⟩
  exact ⟨n,by simp only [hE g hx,h3]⟩
 | false =>
  rw [hx] at hh
  simp only [cond_false] at hh
  split at hh
  ·rename_i as hl
   have hl := litsS_ok hA hl
   subst hl
   split at hh
   ·rename_i v hv
    refine (Out.of_ret (x := some v) hS ⟨v,_,rfl,.a v,hh⟩).mono ?_
    rintro r H' ⟨h1,rfl⟩
    cases h1
    exact ⟨0,by simp only [hv]⟩
   ·exact (stuck_no hh).elim
  ·exact (stuck_no hh).elim
theorem effX_ok {S : AStat} (hC : CodecOk C) {noExt : FuncId → Bool} (hE : ExtNo S noExt) {call : CallX C} (hcall : CallOkX S call) {lo wlo : Nat} {ρ : List AVal} {ev : Operand → SV C.T} (hev : ∀ x,Er E (ev x) (evalA S ρ x)) {h : SH C} {H : Heap} (hS : SimH E lo wlo h H) {op : Op} {K : SV C.T → SH C → Tree}
 (hh : (effX S noExt call wlo ev h op K).holds) : Out E lo wlo h H (fun v H' => ∃ n,effA S (callA S (execA S n)) lo ρ H op = some (v,H')) K := by
 unfold effX at hh
 split at hh
 ·rename_i t x v
  refine (storeX_ok hC hS (hev x) (hev v) hh).mono ?_
  rintro r H' ⟨rfl,h1⟩
  exact ⟨0,by simp only [effA,h1,Option.map_some]⟩
 ·rename_i t m x v
  refine (mapUpdX_ok hS (hev m) (hev x) (hev v) hh).mono ?_
  rintro r H' ⟨rfl,h1⟩
  exact ⟨0,by simp only [effA,h1,Option.map_some]⟩
 ·rename_i x isString
  exact (nextX_ok hS (hev x) hh).mono fun r H' h1 => ⟨0,by simp only [effA]; exact h1⟩
 ·rename_i c
  obtain ⟨callee,args,ts⟩ := c
  simp only at hh
  have hA := Ers.map hev args.toList
  split at hh
  ·split at hh
   ·rename_i s x t u e1 e2
    rw [e1] at hA
    obtain ⟨a,as,e3,h1,hA⟩ := hA.inv_cons
    obtain ⟨b,bs,e4,h2,hA⟩ := hA.inv_cons
    obtain rfl := hA.inv_nil
    subst e4
    refine (appendX_ok hC hS h1 h2 hh).mono ?_
    intro r H' h3
    exact ⟨0,by simp only [effA,e3,e2,h3]⟩
   ·exact (stuck_no hh).elim
  ·rename_i f
   have hf := hev f
   split at hh
   ·rename_i g first captured e
    rw [e] at hf
    generalize hv : evalA S ρ f = v at hf
    cases hf
    refine (callG_ok hE hcall hS (((Ers.mapA first).append hA).append (Ers.mapA captured)) hh).mono ?_
    rintro r H' ⟨n,h3⟩
    exact ⟨n,by simp only [effA,hv]; exact h3⟩
   ·rename_i g first captured e
    rw [e] at hf
    generalize hv : evalA S ρ f = v at hf
    cases hf with
    | fn q1 q2 q3 q4 =>
     have hF : Ers E first _ := ⟨q1,q2⟩
     have hG : Ers E captured _ := ⟨q3,q4⟩
     refine (callG_ok hE hcall hS ((hF.append hA).append hG) hh).mono ?_
     rintro r H' ⟨n,h3⟩
     exact ⟨n,by simp only [effA,hv]; exact h3⟩
   ·exact (stuck_no hh).elim
  ·rename_i r name
   have hr := hev r
   split at hh
   ·rename_i t v e
    obtain ⟨w,hw,hi⟩ := ifaceS_ok hr e
    split at hh
    ·rename_i g q hm hn
     refine (hcall E lo wlo g _ h H K _ hh hS (hA.cons hi)).mono ?_
     rintro r' H' ⟨n,h3⟩
     exact ⟨n,by simp only [effA,hw,hm,nkS_ok hi hn,h3]⟩
    ·rename_i hno
     split at hh
     ·rename_i v0 as hl
      cases hi
      split at hh
      ·rename_i g v1 hm
       split at hh
       ·rename_i x hx
        have hl := litsS_ok hA hl
        refine (Out.of_ret (x := some x) hS ⟨x,_,rfl,.a x,hh⟩).mono ?_
        rintro r' H' ⟨h1,rfl⟩
        cases h1
        refine ⟨0, ?_⟩
        simp only [effA,hw]
        split
        ·rename_i g' q' h1 h2
         exact (hno _ _ h1 h2).elim
        ·simp only [hm,hl,hx,Option.map_some]
       ·exact (stuck_no hh).elim
      ·exact (stuck_no hh).elim
     ·exact (stuck_no hh).elim
   ·exact (stuck_no hh).elim
  ·exact (stuck_no hh).elim
 ·exact (stuck_no hh).elim
theorem quiet_new {S : AStat} {ρ : List AVal} {H : Heap} {op : Op} (h : isNewB op = true) : quietA S ρ H op = none := by
 cases op <;> first | rfl | (simp [isNewB] at h; done)
theorem quiet_eff {S : AStat} {ρ : List AVal} {H : Heap} {op : Op} (h : isEffB op = true) : quietA S ρ H op = none ∧ newA S ρ op = none := by
 cases op <;> first
  | exact ⟨rfl,rfl⟩
  | (simp [isEffB] at h; done)
  | skip
 rename_i c
 obtain ⟨callee,args,ts⟩ := c
 cases callee <;> first
  | exact ⟨rfl,rfl⟩
  | skip
 rename_i b
 cases b <;> first
  | exact ⟨rfl,rfl⟩
  | (simp [isEffB] at h; done)
theorem bytesX_ok (hC : CodecOk C) {P : Program} {S : AStat} (hP : P = S.P) {ρ : List AVal} {ev : Operand → SV C.T} (hev : ∀ x,Er E (ev x) (evalA S ρ x)) {op : Op} {K : (Nat → Obj C.T) → (Nat → SV C.T) → Tree} (h : (bytesX P ev op K).holds) (call : CallF) (lo : Nat) (H : Heap) :
 quietA S ρ H op = none ∧ newA S ρ op = none ∧ ∃ (blk : ABlk) (mkA : Nat → AVal) (o : Nat → Obj C.T) (mk : Nat → SV C.T),effA S call lo ρ H op = some (mkA H.length,H ++ [some blk]) ∧ (K o mk).holds ∧ ∀ (E' : Env) (H' : Heap) (id b : Nat),E.le E' → E'.β id = some b → E'.γ id = some (mkA b) → E'.ω b = some id → H'[b]? = some (some blk) → ObjOk E' H' id (o id) ∧ Er E' (mk id) (mkA b) := by
 subst hP
 unfold bytesX at h
 split at h
 ·rename_i s d x
  split at h
  ·rename_i e t hs hd ht
   split at h
   ·rename_i n he hn
    split at h
    ·rename_i hsz
     obtain ⟨hdec,hk⟩ := h
     have ex := strOf_ok (hev x) ht
     refine ⟨?_,rfl,.cells (t.map fun b => .int .u8 b.toNat),fun id => .sl 1 id 0 t.length t.length false,_,_, ?_,hk, ?_⟩
     ·simp only [quietA,convHA,convA,strOfA,hs,hd]
     ·simp only [effA,bytesA,hs,hd,he,ex]
     ·intro E' H' id b hle hb hg hw hH
      refine ⟨.inr ⟨b,0,t.length,false,_, ?_,hb,hw,hH, ?_, ?_,.inr ?_,fun _ => .inr ?_, ?_⟩,.R hg rfl⟩
      ·rw [hg,List.length_map,hsz]
      ·simp
      ·simp [hsz]
      ·simp [hsz]
      ·simp
      ·intro i y j xx a g1 g2 g3
       have hj : j < C.sz n := by have := lt_of_some g2; rw [hC.len] at this; exact this
       have hj0 : j = 0 := by omega
       subst hj0
       rw [List.getElem?_map] at g1
       cases hti : t[i]? with
       | none => rw [hti] at g1; cases g1
       | some c =>
        rw [hti] at g1
        simp only [Option.map_some,Option.some.injEq] at g1
        subst g1
        obtain ⟨y,hy⟩ := Option.isSome_iff_exists.1 (hdec c)
        have ey : byteOf C n c = y := by unfold byteOf; rw [hy]; rfl
        rw [ey] at g2
        rw [hsz,Nat.zero_add,Nat.mul_one,Nat.add_zero,List.getElem?_map,hti] at g3
        simp only [Option.map_some,Option.some.injEq] at g3
        subst g3
        exact (hC.dec n _ y hy E' [.int .u8 c.toNat] (.cons (.i _ _) .nil)).2 0 xx _ g2 rfl
    ·exact (stuck_no h).elim
   ·exact (stuck_no h).elim
  ·exact (stuck_no h).elim
 ·exact (stuck_no h).elim
theorem opX_ok {F : Cf C} (hC : CodecOk C) (hE : ExtNo F.S F.noExt) {call : CallX C} (hcall : CallOkX F.S call) {lo wlo : Nat} {ρ : List AVal} {r : SR C} (hev : ∀ x,Er E (sEval F.S r.get x) (evalA F.S ρ x)) {h : SH C} {H : Heap} (hS : SimH E lo wlo h H) {o : Oper} {K : SV C.T → SH C → Tree}
 (hh : (opX F call wlo r h o K).holds) : Out E lo wlo h H (fun v H' => ∃ n,opA F.S (callA F.S (execA F.S n)) lo ρ H o = some (v,H')) K := by
 unfold opX at hh
 cases hn : isNewB o.op with
 | true =>
  rw [hn] at hh
  simp only [cond_true] at hh
  obtain ⟨blk,mkA,ob,mk,h1,h2,h3⟩ := newX_ok hC hev hh
  have hp := hS.pushEnd (ob h.length) (mkA H.length) blk (fun hle => (h3 _ _ h.length H.length hle.le (by simp [Env.put]) (by simp [Env.put]) (by simp [Env.put]) get_push).1)
  refine ⟨mkA H.length,_,mk h.length,_,_,⟨0, ?_⟩,hp.1,by simp,hp.2,by simp,(h3 _ _ h.length H.length hp.1.le (by simp [Env.put]) (by simp [Env.put]) (by simp [Env.put]) get_push).2,h2⟩
  simp only [opA,quiet_new hn,h1]
 | false =>
  rw [hn] at hh
  simp only [cond_false] at hh
  cases he : isEffB o.op with
  | true =>
   rw [he] at hh
   refine (effX_ok hC hE hcall hev hS hh).mono ?_
   rintro v H' ⟨n,h1⟩
   obtain ⟨h2,h3⟩ := quiet_eff (S := F.S) (ρ := ρ) (H := H) he
   exact ⟨n,by simp only [opA,h2,h3,h1]⟩
  | false =>
   rw [he] at hh
   simp only [cond_false] at hh
   cases hb : isBytesB F.S.P o.op with
   | true =>
    rw [hb] at hh
    simp only [cond_true] at hh
    obtain ⟨q1,q2,blk,mkA,ob,mk,h1,h2,h3⟩ := bytesX_ok hC rfl hev hh (callA F.S (execA F.S 0)) lo H
    have hp := hS.pushEnd (ob h.length) (mkA H.length) blk (fun hle => (h3 _ _ h.length H.length hle.le (by simp [Env.put]) (by simp [Env.put]) (by simp [Env.put]) get_push).1)
    refine ⟨mkA H.length,_,mk h.length,_,_,⟨0, ?_⟩,hp.1,by simp,hp.2,by simp,(h3 _ _ h.length H.length hp.1.le (by simp [Env.put]) (by simp [Env.put]) (by simp [Env.put]) get_push).2,h2⟩
    simp only [opA,q1,q2,h1]
   | false =>
    rw [hb] at hh
    refine (quietX_ok hC hev hS hh).mono ?_
    rintro v H' ⟨h1,rfl⟩
    exact ⟨0,by simp only [opA,h1]⟩
structure SimR (E : Env) (r : SR C) (ρ : List AVal) : Prop where
 full : Full 9 r.t
 small : r.n ≤ 512
 len : ρ.length = r.n
 val : ∀ j,Er E (r.get j) (ρ.getD j undefA)
theorem SimR.mono {E E' : Env} (k : E.le E') {r : SR C} {ρ : List AVal} (h : SimR E r ρ) : SimR E' r ρ := ⟨h.full,h.small,h.len,fun j => (h.val j).mono k⟩
theorem SR.get_set {r : SR C} (hf : Full 9 r.t) (hs : r.n ≤ 512) {d : Nat} {v : SV C.T} (hd : d < r.n) (j : Nat) : (r.set d v).get j = if j = d then v else r.get j := by
 have hd' : Nat.blt d r.n = true := by rw [Nat.blt_eq]; exact hd
 unfold SR.set
 rw [hd']
 simp only [cond_true,SR.get]
 by_cases hj : j < r.n
 ·have hj' : Nat.blt j r.n = true := by rw [Nat.blt_eq]; exact hj
  simp only [hj',cond_true]
  rw [Am.get_set v 9 _ _ _ hf (by omega) (by omega)]
  by_cases e : d = j
  ·subst e; simp
  ·rw [if_neg e,if_neg (fun x => e x.symm)]
 ·have hj' : Nat.blt j r.n = false := by rw [Bool.eq_false_iff]; intro x; rw [Nat.blt_eq] at x; exact hj x
  simp only [hj',cond_false]
  rw [if_neg (by omega)]
theorem SR.set_n (r : SR C) (d : Nat) (v : SV C.T) : (r.set d v).n = r.n := by
 unfold SR.set
 cases Nat.blt d r.n <;> rfl
theorem SR.set_full {r : SR C} (hf : Full 9 r.t) (d : Nat) (v : SV C.T) : Full 9 (r.set d v).t := by
 unfold SR.set
 cases Nat.blt d r.n
 ·exact hf
 ·exact full_set v 9 _ _ hf
theorem SimR.set {r : SR C} {ρ : List AVal} (h : SimR E r ρ) {d : Nat} {v : SV C.T} {a : AVal} (hv : Er E v a) : SimR E (r.set d v) (ρ.set d a) := by
 refine ⟨SR.set_full h.full d v,by rw [SR.set_n]; exact h.small,by rw [List.length_set,SR.set_n]; exact h.len,fun j => ?_⟩
 by_cases hd : d < r.n
 ·rw [SR.get_set h.full h.small hd,List.getD_eq_getElem?_getD,List.getElem?_set]
  by_cases e : j = d
  ·subst e
   rw [if_pos rfl,if_pos rfl,if_pos (by rw [h.len]; exact hd)]
   exact hv
  ·rw [if_neg e,if_neg (fun x => e x.symm),← List.getD_eq_getElem?_getD]
   exact h.val j
 ·have hd' : Nat.blt d r.n = false := by rw [Bool.eq_false_iff]; intro x; rw [Nat.blt_eq] at x; exact hd x
  unfold SR.set
  rw [hd',List.set_eq_of_length_le (by rw [h.len]; omega)]
  exact h.val j
theorem SimR.self {r : SR C} {ρ : List AVal} (h : SimR E r ρ) {d : Nat} {v : SV C.T} (hv : Er E v (ρ.getD d undefA)) : SimR E (r.set d v) ρ := by
 have := h.set (d := d) hv
 have e : ρ.set d (ρ.getD d undefA) = ρ := by
  apply List.ext_getElem?
  intro j
  rw [List.getElem?_set]
  split
  ·rename_i hj
   subst hj
   rw [List.getD_eq_getElem?_getD]
   split
   ·rename_i hl; rw [List.getElem?_eq_getElem hl]; rfl
   ·rename_i hl; rw [List.getElem?_eq_none (by omega)]
  ·rfl
 rw [e] at this
 exact this
theorem SimR.ev {S : AStat} {r : SR C} {ρ : List AVal} (h : SimR E r ρ) : ∀ x,Er E (sEval S r.get x) (evalA S ρ x) := by
 intro x
 cases x with
 | tmp t => exact h.val t
 | const v => exact .a _
 | global g =>
  simp only [sEval,evalA]
  cases S.glob g with
  | none => exact .any
  | some cs => exact .a _
 | func f => exact .a _
theorem SimR.put {r : SR C} {ρ : List AVal} (h : SimR E r ρ) {dst : Option Tmp} {v : SV C.T} {a : AVal} (hv : Er E v a) : SimR E (sPut r dst v) (putA ρ dst a) := by
 cases dst with
 | none => exact h
 | some d => exact h.set hv
theorem guardX_ok {ops : List Oper} {r : SR C} {ρ : List AVal} (h : SimR E r ρ) {o : Oper} {yes no : SR C → Tree} (hh : (guardX ops r o yes no).holds) :
 (guardA ops ρ o = some true ∧ ∃ r',SimR E r' ρ ∧ (yes r').holds) ∨ (guardA ops ρ o = some false ∧ ∃ r',SimR E r' ρ ∧ (no r').holds) := by
 unfold guardX at hh
 unfold guardA
 split at hh
 ·rename_i e
  rw [e]
  exact .inl ⟨rfl,r,h,hh⟩
 ·rename_i j want e
  rw [e]
  simp only
  split at hh
  ·rename_i e2
   rw [e2]
   exact .inr ⟨rfl,r,h,hh⟩
  ·rename_i d e2
   rw [e2]
   simp only
   cases hb : Nat.blt d r.n with
   | false =>
    rw [hb] at hh
    have hd : ¬ d < r.n := by intro x; rw [← Nat.blt_eq,hb] at x; cases x
    rw [List.getElem?_eq_none (by rw [h.len]; exact Nat.le_of_not_lt hd)]
    exact .inr ⟨rfl,r,h,hh⟩
   | true =>
    rw [hb] at hh
    simp only [cond_true] at hh
    have hd : d < r.n := by rw [← Nat.blt_eq]; exact hb
    have hl : d < ρ.length := by rw [h.len]; exact hd
    have hv := h.val d
    have hg : ρ[d]? = some (ρ.getD d undefA) := by rw [List.getD_eq_getElem?_getD,List.getElem?_eq_getElem hl]; rfl
    rw [hg]
    generalize ha : ρ.getD d undefA = a at hv
    split at hh
    ·rename_i b e3
     rw [e3] at hv
     cases hv
     simp only
     cases hw : (b == want) with
     | true => rw [hw] at hh; exact .inl ⟨rfl,r,h,hh⟩
     | false => rw [hw] at hh; exact .inr ⟨rfl,r,h,hh⟩
    ·rename_i x e3
     rw [e3] at hv
     cases hv
     exact .inr ⟨rfl,r,h,hh⟩
    ·rename_i t e3
     rw [e3] at hv
     cases hv
     have hs : ∀ t',t' = t → SimR E (r.set d (.a (.bool t'))) ρ := fun t' e => h.self (by rw [ha,e]; exact .a _)
     cases want with
     | true =>
      simp only [cond_true] at hh
      rcases fork_cases hh with ⟨rfl,h1⟩ | ⟨rfl,h1⟩
      ·exact .inl ⟨rfl,_,hs _ rfl,h1⟩
      ·exact .inr ⟨rfl,_,hs _ rfl,h1⟩
     | false =>
      simp only [cond_false] at hh
      rcases fork_cases hh with ⟨rfl,h1⟩ | ⟨rfl,h1⟩
      ·exact .inr ⟨rfl,_,hs _ rfl,h1⟩
      ·exact .inl ⟨rfl,_,hs _ rfl,h1⟩
    ·exact (stuck_no hh).elim
def Go2 (E : Env) (lo wlo : Nat) (h : SH C) (H : Heap) (r : List AVal → Heap → Prop) (K : SR C → SH C → Tree) : Prop :=
 ∃ ρ' H' r' h' E',r ρ' H' ∧ LeN h.length H.length E E' ∧ h.length ≤ h'.length ∧ SimR E' r' ρ' ∧ SimH E' lo wlo h' H' ∧ H.length ≤ H'.length ∧ (K r' h').holds
theorem opsX_ok {F : Cf C} (hC : CodecOk C) (hX : ExtNo F.S F.noExt) {call : CallX C} (hcall : CallOkX F.S call) {lo wlo : Nat} {ops : List Oper} {K : SR C → SH C → Tree} : ∀ {l : List Oper} {E : Env} {r : SR C} {ρ : List AVal} {h : SH C} {H : Heap},SimR E r ρ → SimH E lo wlo h H →
 (opsX F call wlo ops l r h K).holds → Go2 E lo wlo h H (fun ρ' H' => ∃ n,opsA F.S (callA F.S (execA F.S n)) lo ops l ρ H = some (ρ',H')) K
 | [],E,r,ρ,h,H,hR,hS,hh => ⟨ρ,H,r,h,E,⟨0,rfl⟩,LeN.refl _ _,Nat.le_refl _,hR,hS,Nat.le_refl _,hh⟩
 | o :: l,E,r,ρ,h,H,hR,hS,hh => by
  unfold opsX at hh
  rcases guardX_ok hR hh with ⟨hg,r1,hR1,h1⟩ | ⟨hg,r1,hR1,h1⟩
  ·obtain ⟨v,H1,sv,sh1,E1,⟨n,h2⟩,h3,h4,h5,h6,h7,h8⟩ := opX_ok hC hX hcall hR1.ev hS h1
   obtain ⟨ρ',H',r',h',E',⟨m,k1⟩,k2,k3,k4,k5,k6,k7⟩ := opsX_ok hC hX hcall ((hR1.mono h3.le).put h7) h5 h8
   refine ⟨ρ',H',r',h',E',⟨max n m, ?_⟩,h3.trans h4 h6 k2,Nat.le_trans h4 k3,k4,k5,Nat.le_trans h6 k6,k7⟩
   unfold opsA
   simp only [hg]
   rw [opA_mono (callA_mono (execA_mono (Nat.le_max_left n m))) h2]
   exact opsA_mono (callA_mono (execA_mono (Nat.le_max_right n m))) k1
  ·obtain ⟨ρ',H',r',h',E',⟨m,k1⟩,k2,k3,k4,k5,k6,k7⟩ := opsX_ok hC hX hcall (hR1.put (.a undefA)) hS h1
   refine ⟨ρ',H',r',h',E',⟨m, ?_⟩,k2,k3,k4,k5,k6,k7⟩
   unfold opsA
   simp only [hg]
   exact k1
end Go.Sy

/- Operations whose order is open, over symbolic values. Generic: over any program. -/
namespace Go.Sy
open Go.Am
set_option linter.unusedVariables false
set_option linter.unusedSimpArgs false
variable {C : Codec} {E : Env}
inductive RK where
 | own (root : Nat)
 | nm (id : Nat)
 | fr
def RkOk (E : Env) (b : Nat) : RK → Prop
 | .own r => E.ω b = some r
 | .nm id => E.ω b = some id ∧ E.β id = some b
 | .fr => ∃ cs,E.Fr b cs
theorem RkOk.mono {E E' : Env} (k : E.le E') {b : Nat} : ∀ {q : RK},RkOk E b q → RkOk E' b q
 | .own _,h => k.ω _ _ h
 | .nm _,h => ⟨k.ω _ _ h.1,k.β _ _ h.2⟩
 | .fr,⟨cs,h⟩ => ⟨cs,k.Fr _ _ h⟩
def readX (h : SH C) (ev : Operand → SV C.T) : Op → Option RK
 | .load _ x => match ev x with
  | .ptr id _ => some (.nm id)
  | .ep id _ _ => match hget h id with
   | some (.rows _ _ _ root) => some (.own root)
   | _ => some .fr
  | .fp _ => some .fr
  | _ => none
 | .lookup _ m _ _ => match ev m with
  | .mapr id => some (.own id)
  | _ => none
 | .slice _ x _ _ _ => match ev x with
  | .ptr id _ => some (.own id)
  | _ => none
 | .convert _ _ x => match ev x with
  | .sl _ id _ _ _ _ => some (.own id)
  | .R id => match hget h id with
   | some (.rows _ _ _ root) => some (.own root)
   | _ => none
  | _ => none
 | _ => none
def touchX (S : AStat) (h : SH C) (ev : Operand → SV C.T) : Op → Option (List Nat × Bool)
 | .store _ x _ => match ev x with
  | .ptr id _ => some ([id],false)
  | .ep id _ _ => match hget h id with
   | some (.rows _ _ _ root) => some ([root],false)
   | _ => none
  | _ => none
 | .mapUpdate _ m _ _ => match ev m with
  | .mapr id => some ([id],false)
  | _ => none
 | .call c => match c.callee with
  | .builtin .append => match c.args[0]? with
   | some x => match ev x with
    | .a .nils => some ([],false)
    | .sl _ id _ _ _ _ => some ([id],false)
    | .R id => match hget h id with
     | some (.rows _ _ _ root) => some ([root],true)
     | _ => none
    | _ => none
   | none => none
  | .value f => match ev f with
   | .a (.fn (.func g) _ _) => if (S.hook g).isNone && (S.pol g == .pure || S.pol g == .fresh) then some ([],false) else none
   | .fn (.func g) _ _ => if (S.hook g).isNone && (S.pol g == .pure || S.pol g == .fresh) then some ([],false) else none
   | _ => none
  | _ => none
 | _ => none
inductive TK where
 | tch (ids : List Nat) (other : Bool)
 | kept (K : List Nat) (N : List (Nat × Prop))
abbrev RdS := List (Nat × RK)
abbrev TcS := List (Nat × TK)
def samePS {T : Nat → Type} : List (SV T) → List (SV T) → Bool
 | [],[] => true
 | .ptr i o :: cs,.ptr i' o' :: ds => Nat.beq i i' && Nat.beq o o' && samePS cs ds
 | _,_ => false
def keptB {T : Nat → Type} : Option (Obj T) → Option (Obj T) → Bool
 | some (.cells cs),some (.cells ds) => samePS cs ds
 | _,_ => false
def keptL (h h' : SH C) : Nat → List Nat
 | 0 => []
 | j + 1 => bif keptB (hget h j) (hget h' j) then j :: keptL h h' j else keptL h h' j
def sameNS {T : Nat → Type} : List (SV T) → List (SV T) → Option Prop
 | [],[] => some True
 | x :: cs,y :: ds => match x,y with
  | .ptr i o,.ptr i' o' => bif Nat.beq i i' && Nat.beq o o' then sameNS cs ds else none
  | _,_ => match intOf x,intOf y with
   | some (k,n),some (k',n') => if k = k' then (sameNS cs ds).map fun p => n = n' ∧ p else none
   | _,_ => none
 | _,_ => none
def keptNB {T : Nat → Type} : Option (Obj T) → Option (Obj T) → Option Prop
 | some (.cells cs),some (.cells ds) => sameNS cs ds
 | _,_ => none
def keptN (h h' : SH C) : Nat → List (Nat × Prop)
 | 0 => []
 | j + 1 => match keptNB (hget h j) (hget h' j) with
  | some p => (j,p) :: keptN h h' j
  | none => keptN h h' j
def tk0 : Option (List Nat × Bool) → TK
 | some (ids,o) => .tch ids o
 | none => .kept [] []
def tkX (S : AStat) (h h' : SH C) (ev : Operand → SV C.T) (op : Op) : TK := match touchX S h ev op with
 | some (ids,o) => .tch ids o
 | none => match op with
  | .call c => (match c.callee with
   | .value _ => .kept (keptL h h' h.length) (keptN h h' h.length)
   | _ => .kept [] [])
  | _ => .kept [] []
def pairS (B : List Nat) (r : Nat × RK) (t : Nat × TK) : Bool := (B.getD r.1 0).testBit t.1 || (B.getD t.1 0).testBit r.1 ||
 match t.2 with
 | .tch l other => (match r.2 with
  | .own root => !l.contains root
  | .nm id => !l.contains id
  | .fr => !other)
 | .kept K _ => (match r.2 with
  | .nm id => K.contains id
  | _ => false)
def apartS (B : List Nat) (reads : RdS) (touches : TcS) : Bool :=
 reads.all fun r => touches.all fun t => pairS B r t
def needS (r : Nat × RK) (t : Nat × TK) : Option Prop := match t.2,r.2 with
 | .kept _ N,.nm id => (N.find? fun x => Nat.beq x.1 id).map (·.2)
 | _,_ => none
def pairsS (reads : RdS) (touches : TcS) : List ((Nat × RK) × (Nat × TK)) := reads.flatMap fun r => touches.map fun t => (r,t)
def apartN (B : List Nat) (K : Tree) : List ((Nat × RK) × (Nat × TK)) → Tree
 | [] => K
 | (r,t) :: l => bif pairS B r t then apartN B K l else match needS r t with
  | some p => .need p (apartN B K l)
  | none => .stuck "an order that could be seen"
def noHid (ops : Array Oper) (B : List Nat) (k : Nat) : Bool :=
 (List.range ops.size).all fun j => match ops[j]? with
  | some o => !isNewB o.op || (Nat.blt j k && (B.getD k 0).testBit j)
  | none => true
def hidIds (B : List Nat) (k : Nat) (news : List (Nat × Nat)) : List Nat := (news.filter fun x => !(B.getD k 0).testBit x.1).map (·.2)
def hideS (h : SH C) : List Nat → SH C
 | [] => h
 | id :: ids => hideS (h.set id none) ids
def unhideS (h0 h : SH C) : List Nat → SH C
 | [] => h
 | id :: ids => unhideS h0 (h.set id (h0.getD id none)) ids
def freshOp (S : AStat) (ev : Operand → SV C.T) : Op → Bool
 | .call c => match c.callee with
  | .value f => match ev f with
   | .a (.fn (.func g) _ _) => (S.hook g).isNone && (S.pol g == .pure || S.pol g == .fresh)
   | .fn (.func g) _ _ => (S.hook g).isNone && (S.pol g == .pure || S.pol g == .fresh)
   | _ => false
  | _ => false
 | _ => false
noncomputable def drawGoX (F : Cf C) (call : CallX C) (wlo : Nat) (ops : Array Oper) (B : List Nat) : List Oper → Nat → SR C → SH C → List (Nat × Nat) → RdS → TcS → (SR C → SH C → Tree) → Tree
 | [],_,r,h,_,rd,tc,K => bif apartS B rd tc then K r h else apartN B (K r h) (pairsS rd tc)
 | o :: rest,k,r,h,news,rd,tc,K => guardX ops.toList r o
  (fun r =>
   bif isNewB o.op then newX F.S (sEval F.S r.get) o.op fun ob mk => drawGoX F call wlo ops B rest (k + 1) (sPut r o.dst (mk h.length)) (h ++ [some (ob h.length)]) ((k,h.length) :: news) rd tc K
   else bif isEffB o.op then
    bif noHid ops B k then effX F.S F.noExt call wlo (sEval F.S r.get) h o.op fun v h' => drawGoX F call wlo ops B rest (k + 1) (sPut r o.dst v) h' news rd ((k,tkX F.S h h' (sEval F.S r.get) o.op) :: tc) K
    else bif freshOp F.S (sEval F.S r.get) o.op && ((hidIds B k news).all fun id => (hget h id).isSome) then
     effX F.S F.noExt call wlo (sEval F.S r.get) (hideS h (hidIds B k news)) o.op fun v h' => drawGoX F call wlo ops B rest (k + 1) (sPut r o.dst v) (unhideS h h' (hidIds B k news)) news rd ((k,tk0 (touchX F.S h (sEval F.S r.get) o.op)) :: tc) K
    else .stuck "a new block beside what turns memory"
   else quietX F.S wlo (sEval F.S r.get) h o.op fun v h' => drawGoX F call wlo ops B rest (k + 1) (sPut r o.dst v) h' news
    (match readX h (sEval F.S r.get) o.op with
     | some q => (k,q) :: rd
     | none => rd) tc K)
  (fun r => drawGoX F call wlo ops B rest (k + 1) (sPut r o.dst (.a undefA)) h news rd tc K)
noncomputable def drawX (F : Cf C) (call : CallX C) (wlo : Nat) (ops : Array Oper) (r : SR C) (h : SH C) (K : SR C → SH C → Tree) : Tree :=
 bif regionOk ops (befs ops.toList []) then drawGoX F call wlo ops (befs ops.toList []) ops.toList 0 r h [] [] [] K
 else .stuck "an order that could be seen"
theorem readX_ok {S : AStat} {lo wlo : Nat} {ρ : List AVal} {ev : Operand → SV C.T} (hev : ∀ x,Er E (ev x) (evalA S ρ x)) {h : SH C} {H : Heap} (hS : SimH E lo wlo h H) {op : Op} {K : SV C.T → SH C → Tree} (hh : (quietX S wlo ev h op K).holds) {b : Nat} (hb : readsA S ρ op = some b) :
 ∃ q,readX h ev op = some q ∧ RkOk E b q := by
 unfold readsA at hb
 split at hb
 ·rename_i t x
  have hx := hev x
  simp only [quietX,loadS] at hh
  simp only [readX]
  generalize evalA S ρ x = a at hx hb
  generalize ev x = sv at hx hh
  split at hh
  ·rename_i id off
   split at hh
   ·rename_i cs ho
    cases hx with
    | ptr hβ =>
     simp only [blkOf,Option.some.injEq] at hb
     subst hb
     obtain ⟨b',as,g1,gw,_⟩ := hS.obj id _ (hget_some ho)
     rw [hβ] at g1
     simp only [Option.some.injEq] at g1
     subst g1
     exact ⟨_,rfl,gw,hβ⟩
   ·exact (stuck_no hh).elim
  ·rename_i id i off
   split at hh
   ·rename_i n l full root ho
    cases hx with
    | ep hg =>
     simp only [blkOf,Option.some.injEq] at hb
     subst hb
     rcases hS.obj id _ (hget_some ho) with ⟨rfl,_⟩ | ⟨b',off',cap',ex',as,g1,g2,gw,_⟩
     ·have := hh.1
      simp at this
      omega
     ·rw [hg] at g1
      simp only [Option.some.injEq,AVal.sl.injEq] at g1
      obtain ⟨rfl,rfl,rfl,rfl,rfl,rfl⟩ := g1
      exact ⟨.own root,by simp only [ho],gw⟩
   ·exact (stuck_no hh).elim
  ·cases hx with
   | fpI => cases hb
   | fpP hf =>
    simp only [blkOf,Option.some.injEq] at hb
    subst hb
    exact ⟨.fr,rfl,_,hf⟩
  ·cases hx; cases hb
  ·cases hx; cases hb
  ·exact (stuck_no hh).elim
 ·rename_i t m x ok
  have hm := hev m
  simp only [quietX,lookupS] at hh
  exact (stuck_no hh).elim
 ·rename_i t x l u m
  have hx := hev x
  simp only [quietX] at hh
  simp only [readX]
  generalize evalA S ρ x = a at hx hb
  generalize ev x = sv at hx hh
  cases hx with
  | ptr hβ =>
   simp only [blkOf,Option.some.injEq] at hb
   subst hb
   simp only [sliceS] at hh
   split at hh
   ·rename_i n e cs ht _ ho
    obtain ⟨b',as,g1,gw,_⟩ := hS.obj _ _ (hget_some ho)
    rw [hβ] at g1
    simp only [Option.some.injEq] at g1
    subst g1
    exact ⟨_,rfl,gw⟩
   ·exact (stuck_no hh).elim
  | a =>
   exfalso
   cases a <;> simp only [blkOf] at hb <;> first | (cases hb; done) | skip
   ·simp only [sliceS,strOf] at hh
    split at hh
    ·obtain ⟨r,h1,h2⟩ := opt_some hh
     rw [slice_dead (by simp)] at h1
     cases h1
    ·exact stuck_no hh
   ·simp only [sliceS,strOf] at hh
    split at hh
    ·obtain ⟨r,h1,h2⟩ := opt_some hh
     rw [slice_map] at h1
     cases h1
    ·exact stuck_no hh
  | R hg hs => cases a <;> simp [isSlB] at hs <;> simp [blkOf] at hb
  | ep => simp only [sliceS] at hh; exact (stuck_no hh).elim
  | mapr => simp only [sliceS] at hh; exact (stuck_no hh).elim
  | fpP => simp only [sliceS] at hh; exact (stuck_no hh).elim
  | any => simp only [sliceS] at hh; exact (stuck_no hh).elim
  | _ => simp [blkOf] at hb
 ·rename_i s d x
  have hx := hev x
  simp only [quietX,convS] at hh
  simp only [readX]
  generalize evalA S ρ x = a at hx hb
  generalize ev x = sv at hx hh
  split at hh
  ·cases hx
   exfalso
   cases a <;> simp only [slBlk] at hb <;> first | (cases hb; done) | skip
   obtain ⟨r,h1,h2⟩ := opt_some hh
   simp only [convHA,convA] at h1
   split at h1
   ·rename_i e
    split at e <;> simp_all
   ·simp [strOfA] at h1
    (repeat' split at h1) <;> simp_all
  ·cases hx; cases hb
  ·cases hx; cases hb
  ·rename_i sz id off len cap ex
   cases hx with
   | sl hβ =>
    simp only [slBlk,Option.some.injEq] at hb
    subst hb
    split at hh
    ·rename_i e cs hs hd ho
     obtain ⟨b',ys,g1,gw,_⟩ := hS.obj id _ (hget_some ho)
     rw [hβ] at g1
     simp only [Option.some.injEq] at g1
     subst g1
     exact ⟨_,rfl,gw⟩
    ·exact (stuck_no hh).elim
  ·rename_i id
   cases hx with
   | R hγ _ =>
   split at hh
   ·rename_i e n l full root hs hd ho
    rcases hS.obj id _ (hget_some ho) with ⟨_,_,a',g1,g2⟩ | ⟨b',off,cap,ex,as,g1,g2,gw,_⟩
    ·rw [hγ] at g1
     simp only [Option.some.injEq] at g1
     subst g1
     rcases g2 with rfl | rfl <;> cases hb
    ·rw [hγ] at g1
     simp only [Option.some.injEq] at g1
     subst g1
     simp only [slBlk,Option.some.injEq] at hb
     subst hb
     simp only [ho]
     exact ⟨_,rfl,gw⟩
   ·exact (stuck_no hh).elim
  ·exact (stuck_no hh).elim
 ·rename_i args ts
  split at hb
  ·rename_i x hx0
   split at hb
   ·rename_i b' e
    exfalso
    have hx := hev x
    rw [e] at hx
    simp only [quietX,hx0] at hh
    split at hh
    ·rename_i t x' h1 h2
     simp only [Option.some.injEq] at h2
     subst h2
     unfold lenS at hh
     generalize ev x = sv at hx hh
     split at hh
     ·split at hh
      ·cases hx
      ·cases hx
      ·exact stuck_no hh
     ·split at hh
      ·exact stuck_no hh
      ·exact stuck_no hh
      ·exact stuck_no hh
      ·rename_i q1 q2 q3
       cases hx with
       | a => exact q3 _ rfl
       | mapr => exact q1 _ rfl
       | any => exact q2 rfl
       | R _ hs => simp [isSlB] at hs
     ·split at hh
      ·cases hx
      ·cases hx
      ·cases hx
      ·cases hx
      ·cases hx with | R _ hs => simp [isSlB] at hs
      ·exact stuck_no hh
     ·exact stuck_no hh
    ·exact stuck_no hh
   ·cases hb
  ·cases hb
 ·cases hb
theorem storeX_live {P : Program} {wlo : Nat} {t : TypeId} {h : SH C} {x v : SV C.T} {K : SV C.T → SH C → Tree} (hh : (storeX P wlo t h x v K).holds) :
 ∃ id,(∃ off,x = .ptr id off ∧ ∃ cs,hget h id = some (.cells cs)) ∨ (∃ i off,x = .ep id i off ∧ ∃ n l full root,hget h id = some (.rows n l full root) ∧ l ≠ []) := by
 unfold storeX at hh
 split at hh
 ·exact (stuck_no hh).elim
 ·split at hh
  ·split at hh
   ·rename_i id off
    split at hh
    ·rename_i cs ho
     exact ⟨id,.inl ⟨off,rfl,cs,ho⟩⟩
    ·exact (stuck_no hh).elim
   ·rename_i id i off
    split at hh
    ·rename_i n l full root ho
     split at hh
     ·split at hh
      ·refine ⟨id,.inr ⟨i,off,rfl,n,l,full,root,ho, ?_⟩⟩
       rintro rfl
       have := hh.1
       simp at this
       omega
      ·exact (stuck_no hh).elim
     ·exact (stuck_no hh).elim
    ·exact (stuck_no hh).elim
   ·exact (stuck_no hh).elim
  ·exact (stuck_no hh).elim
theorem appendX_live {P : Program} {wlo : Nat} {t u : TypeId} {h : SH C} {x : SV C.T} {sz id off len cap : Nat} {ex : Bool} {K : SV C.T → SH C → Tree} (hh : (appendX P wlo t u h (.sl sz id off len cap ex) x K).holds) : ∃ cs,hget h id = some (.cells cs) := by
 unfold appendX at hh
 split at hh
 ·split at hh
  ·split at hh
   ·exact (stuck_no hh).elim
   ·split at hh
    ·exact (stuck_no hh).elim
    ·simp only at hh
     split at hh
     ·exact (stuck_no hh).elim
     ·split at hh
      ·rename_i cs ho; exact ⟨cs,ho⟩
      ·exact (stuck_no hh).elim
   ·simp only at hh
    split at hh
    ·rename_i cs ho; exact ⟨cs,ho⟩
    ·exact (stuck_no hh).elim
  ·exact (stuck_no hh).elim
 ·exact (stuck_no hh).elim
theorem touchX_ok {S : AStat} {lo wlo : Nat} {ρ : List AVal} {ev : Operand → SV C.T} (hev : ∀ x,Er E (ev x) (evalA S ρ x)) {h : SH C} {H : Heap} (hS : SimH E lo wlo h H) {op : Op} {ids : List Nat} {other : Bool} (ht : touchX S h ev op = some (ids,other)) (hstore : ∀ t x v,op = .store t x v → ∃ id,(∃ off,ev x = .ptr id off ∧ ∃ cs,hget h id = some (.cells cs)) ∨ (∃ i off,ev x = .ep id i off ∧ ∃ n l full root,hget h id = some (.rows n l full root) ∧ l ≠ []))
 (hmap : ∀ t m x v,op = .mapUpdate t m x v → ∃ id es,ev m = .mapr id ∧ hget h id = some (.mp es))
 (happ : ∀ c x sz id off len cap ex,op = .call c → c.callee = .builtin .append → c.args[0]? = some x → ev x = .sl sz id off len cap ex → ∃ cs,hget h id = some (.cells cs)) :
 ∃ l,touchA S ρ op = some l ∧ ∀ b,b ∈ l → (∃ root,root ∈ ids ∧ E.ω b = some root) ∨ (other = true ∧ ∃ cs,E.Fr b cs) := by
 unfold touchX at ht
 split at ht
 ·rename_i t x v
  have hx := hev x
  obtain ⟨id,h1⟩ := hstore t x v rfl
  simp only [touchA]
  refine ⟨_,rfl, ?_⟩
  intro b hb
  generalize evalA S ρ x = a at hx hb
  rcases h1 with ⟨off,e,cs,ho⟩ | ⟨i,off,e,n,l,full,root,ho,hne⟩
  ·rw [e] at hx ht
   cases hx with
   | ptr hβ =>
    simp only [blkOf,Option.toList_some,List.mem_singleton] at hb
    subst hb
    simp only [Option.some.injEq,Prod.mk.injEq] at ht
    obtain ⟨rfl,rfl⟩ := ht
    obtain ⟨b',as,g1,gw,_⟩ := hS.obj id _ (hget_some ho)
    rw [hβ] at g1
    simp only [Option.some.injEq] at g1
    subst g1
    exact .inl ⟨id,by simp,gw⟩
  ·rw [e] at hx ht
   cases hx with
   | ep hg =>
    simp only [blkOf,Option.toList_some,List.mem_singleton] at hb
    subst hb
    simp only [ho,Option.some.injEq,Prod.mk.injEq] at ht
    obtain ⟨rfl,rfl⟩ := ht
    rcases hS.obj id _ (hget_some ho) with ⟨rfl,_⟩ | ⟨b',off',cap',ex',as,g1,g2,gw,_⟩
    ·exact (hne rfl).elim
    ·rw [hg] at g1
     simp only [Option.some.injEq,AVal.sl.injEq] at g1
     obtain ⟨rfl,rfl,rfl,rfl,rfl,rfl⟩ := g1
     exact .inl ⟨root,by simp,gw⟩
 ·rename_i t m x v
  obtain ⟨id,es,e,ho⟩ := hmap t m x v rfl
  have hm := hev m
  rw [e] at hm ht
  simp only [touchA]
  refine ⟨_,rfl, ?_⟩
  intro b hb
  generalize evalA S ρ m = a at hm hb
  cases hm with
  | mapr hβ =>
   simp only [blkOf,Option.toList_some,List.mem_singleton] at hb
   subst hb
   simp only [Option.some.injEq,Prod.mk.injEq] at ht
   obtain ⟨rfl,rfl⟩ := ht
   obtain ⟨b',as,g1,gw,_⟩ := hS.obj id _ (hget_some ho)
   rw [hβ] at g1
   simp only [Option.some.injEq] at g1
   subst g1
   exact .inl ⟨id,by simp,gw⟩
 ·rename_i c
  obtain ⟨callee,args,ts⟩ := c
  simp only at ht
  split at ht
  ·split at ht
   ·rename_i x hx0
    have hx := hev x
    simp only [touchA,hx0]
    split at ht
    ·rename_i e
     rw [e] at hx
     generalize evalA S ρ x = a at hx
     cases hx
     simp only [Option.some.injEq,Prod.mk.injEq] at ht
     obtain ⟨rfl,rfl⟩ := ht
     exact ⟨[],rfl,fun b hb => by simp at hb⟩
    ·rename_i sz id off len cap ex e
     rw [e] at hx
     obtain ⟨cs,ho⟩ := happ _ x sz id off len cap ex rfl rfl hx0 e
     generalize evalA S ρ x = a at hx
     cases hx with
     | sl hβ =>
      simp only [Option.some.injEq,Prod.mk.injEq] at ht
      obtain ⟨rfl,rfl⟩ := ht
      obtain ⟨b',as,g1,gw,_⟩ := hS.obj id _ (hget_some ho)
      rw [hβ] at g1
      simp only [Option.some.injEq] at g1
      subst g1
      exact ⟨_,rfl,fun b hb => by simp only [List.mem_singleton] at hb; subst hb; exact .inl ⟨id,by simp,gw⟩⟩
    ·rename_i id e
     rw [e] at hx
     split at ht
     ·rename_i n l full root ho
      simp only [Option.some.injEq,Prod.mk.injEq] at ht
      obtain ⟨rfl,rfl⟩ := ht
      generalize evalA S ρ x = a at hx
      cases hx with
      | R hg hs =>
       rcases hS.obj id _ (hget_some ho) with ⟨rfl,_,a',g1,g2⟩ | ⟨b',off',cap',ex',as,g1,g2,gw,_⟩
       ·rw [hg] at g1
        simp only [Option.some.injEq] at g1
        subst g1
        rcases g2 with rfl | rfl
        ·exact ⟨[],rfl,fun b hb => by simp at hb⟩
        ·exact ⟨[],rfl,fun b hb => by simp at hb⟩
       ·rw [hg] at g1
        simp only [Option.some.injEq] at g1
        subst g1
        exact ⟨[b'],rfl,fun b hb => by simp only [List.mem_singleton] at hb; subst hb; exact .inl ⟨root,by simp,gw⟩⟩
     ·cases ht
    ·cases ht
   ·cases ht
  ·rename_i f
   have hf := hev f
   have key : ∀ g,evalA S ρ f = .fn (.func g) (match evalA S ρ f with | .fn _ a _ => a | _ => []) (match evalA S ρ f with | .fn _ _ b => b | _ => []) → (if (S.hook g).isNone && (S.pol g == .pure || S.pol g == .fresh) then some (([] : List Nat),false) else none) = some (ids,other) →
    ∃ l,touchA S ρ (.call ⟨.value f,args,ts⟩) = some l ∧ ∀ b,b ∈ l → (∃ root,root ∈ ids ∧ E.ω b = some root) ∨ (other = true ∧ ∃ cs,E.Fr b cs) := by
    intro g e ht
    simp only [touchA]
    rw [e]
    simp only
    split at ht
    ·rename_i hc
     rw [if_pos hc]
     exact ⟨[],rfl,fun b hb => by simp at hb⟩
    ·cases ht
   split at ht
   ·rename_i g x y e
    rw [e] at hf
    generalize hv : evalA S ρ f = v at hf
    cases hf
    exact key g (by rw [hv]) ht
   ·rename_i g x y e
    rw [e] at hf
    generalize hv : evalA S ρ f = v at hf
    cases hf
    exact key g (by rw [hv]) ht
   ·cases ht
  ·cases ht
 ·cases ht
end Go.Sy

/- Operations whose order is open, over symbolic values: it is sound. Generic: over any program. -/
namespace Go.Sy
open Go.Am
set_option linter.unusedVariables false
set_option linter.unusedSimpArgs false
variable {C : Codec} {E : Env}
def apart1 (B : List Nat) (r : Nat × Nat) (t : Nat × Option (List Nat)) : Bool :=
 (B.getD r.1 0).testBit t.1 || (B.getD t.1 0).testBit r.1 || match t.2 with
  | some l => !l.contains r.2
  | none => false
def RdOk (E : Env) (rA : List (Nat × Nat)) (rd : RdS) : Prop := ∀ k b,(k,b) ∈ rA → ∃ q,(k,q) ∈ rd ∧ RkOk E b q
def TkOk (E : Env) (o : Option (List Nat)) : TK → Prop
 | .tch ids other => ∃ l,o = some l ∧ ∀ b,b ∈ l → (∃ root,root ∈ ids ∧ E.ω b = some root) ∨ (other = true ∧ ∃ cs,E.Fr b cs)
 | .kept K N => ∃ l,o = some l ∧ (∀ id,id ∈ K → ∃ b,E.β id = some b ∧ b ∉ l) ∧ ∀ id p,(id,p) ∈ N → p → ∃ b,E.β id = some b ∧ b ∉ l
def TcOk (E : Env) (tA : List (Nat × Option (List Nat))) (tc : TcS) : Prop := ∀ k o,(k,o) ∈ tA → ∃ s,(k,s) ∈ tc ∧ TkOk E o s
theorem RdOk.mono {E E' : Env} (k : E.le E') {rA : List (Nat × Nat)} {rd : RdS} (h : RdOk E rA rd) : RdOk E' rA rd := by
 intro i b hb
 obtain ⟨q,h1,h2⟩ := h i b hb
 exact ⟨q,h1,h2.mono k⟩
theorem TkOk.mono {E E' : Env} (k : E.le E') {o : Option (List Nat)} : ∀ {s : TK},TkOk E o s → TkOk E' o s
 | .tch _ _,⟨l,h3,h4⟩ => ⟨l,h3,fun b hb => (h4 b hb).imp (fun ⟨root,p,q⟩ => ⟨root,p,k.ω _ _ q⟩) (fun ⟨p,cs,q⟩ => ⟨p,cs,k.Fr _ _ q⟩)⟩
 | .kept _ _,⟨l,h3,h4,h5⟩ => ⟨l,h3,fun id hid => (h4 id hid).imp fun b h => ⟨k.β _ _ h.1,h.2⟩,fun id p hid hp => (h5 id p hid hp).imp fun b h => ⟨k.β _ _ h.1,h.2⟩⟩
theorem TcOk.mono {E E' : Env} (k : E.le E') {tA : List (Nat × Option (List Nat))} {tc : TcS} (h : TcOk E tA tc) : TcOk E' tA tc := by
 intro i o ho
 obtain ⟨s,h1,h2⟩ := h i o ho
 exact ⟨s,h1,h2.mono k⟩
def PairOk (B : List Nat) (r : Nat × RK) (t : Nat × TK) : Prop := pairS B r t = true ∨ ∃ p,needS r t = some p ∧ p
theorem apartN_ok {B : List Nat} {K : Tree} : ∀ {l : List ((Nat × RK) × (Nat × TK))},(apartN B K l).holds → K.holds ∧ ∀ x,x ∈ l → PairOk B x.1 x.2
 | [],hh => ⟨hh,fun x hx => by cases hx⟩
 | (r,t) :: l,hh => by
  unfold apartN at hh
  cases hb : pairS B r t with
  | true =>
   rw [hb] at hh
   obtain ⟨h1,h2⟩ := apartN_ok (l := l) hh
   refine ⟨h1,fun x hx => ?_⟩
   rcases List.mem_cons.1 hx with rfl | hx
   ·exact .inl hb
   ·exact h2 x hx
  | false =>
   rw [hb] at hh
   simp only [cond_false] at hh
   split at hh
   ·rename_i p e
    obtain ⟨hp,hh⟩ := hh
    obtain ⟨h1,h2⟩ := apartN_ok (l := l) hh
    refine ⟨h1,fun x hx => ?_⟩
    rcases List.mem_cons.1 hx with rfl | hx
    ·exact .inr ⟨p,e,hp⟩
    ·exact h2 x hx
   ·exact (stuck_no hh).elim
theorem pairsS_mem {rd : RdS} {tc : TcS} {r : Nat × RK} {t : Nat × TK} (h1 : r ∈ rd) (h2 : t ∈ tc) : (r,t) ∈ pairsS rd tc := List.mem_flatMap.2 ⟨r,h1,List.mem_map.2 ⟨t,h2,rfl⟩⟩
theorem apartS_pair {B : List Nat} {rd : RdS} {tc : TcS} (ha : apartS B rd tc = true) : ∀ r,r ∈ rd → ∀ t,t ∈ tc → PairOk B r t := fun r h1 t h2 => .inl (List.all_eq_true.1 (List.all_eq_true.1 ha _ h1) _ h2)
theorem apartS_ok {lo wlo : Nat} {h : SH C} {H : Heap} (hS : SimH E lo wlo h H) {B : List Nat} {rA : List (Nat × Nat)} {rd : RdS} {tA : List (Nat × Option (List Nat))} {tc : TcS} (hr : RdOk E rA rd) (ht : TcOk E tA tc) (ha : ∀ r,r ∈ rd → ∀ t,t ∈ tc → PairOk B r t) :
 ∀ r,r ∈ rA → ∀ t,t ∈ tA → apart1 B r t = true := by
 intro r hr0 t ht0
 obtain ⟨q,h1,h2⟩ := hr r.1 r.2 hr0
 obtain ⟨s,h4,h5⟩ := ht t.1 t.2 ht0
 rcases ha _ h1 _ h4 with this | ⟨p,hp1,hp2⟩
 rotate_left
 ·unfold needS at hp1
  split at hp1
  ·rename_i K N id e1 e2
   obtain ⟨x,hx,rfl⟩ := Option.map_eq_some_iff.1 hp1
   have hx1 := List.mem_of_find?_eq_some hx
   have hx2 := List.find?_some hx
   simp only at e1 e2
   subst e1
   subst e2
   simp only [Nat.beq_eq] at hx2
   obtain ⟨l,h7,_,h8⟩ := h5
   obtain ⟨b,g1,g2⟩ := h8 x.1 x.2 hx1 hp2
   rw [hx2,h2.2] at g1
   simp only [Option.some.injEq] at g1
   unfold apart1
   rw [Bool.or_eq_true]
   right
   rw [h7]
   simp only
   rw [Bool.not_eq_true',Bool.eq_false_iff]
   intro hc
   exact g2 (by rw [← g1]; simpa using hc)
  ·cases hp1
 unfold pairS at this
 simp only at this
 unfold apart1
 rw [Bool.or_eq_true] at this ⊢
 rcases this with h6 | h6
 ·exact .inl h6
 ·right
  cases s with
  | tch ids other =>
   simp only at h6
   obtain ⟨l,h7,h8⟩ := h5
   rw [h7]
   simp only
   rw [Bool.not_eq_true',Bool.eq_false_iff]
   intro hc
   have hmem : r.2 ∈ l := by simpa using hc
   rcases h8 _ hmem with ⟨root,g1,g2⟩ | ⟨g1,cs,g2⟩
   ·have key : ∀ root',E.ω r.2 = some root' → (!ids.contains root') = true → False := by
     intro root' g3 h6
     rw [g2] at g3
     simp only [Option.some.injEq] at g3
     subst g3
     simp only [Bool.not_eq_true'] at h6
     rw [Bool.eq_false_iff] at h6
     exact h6 (by simpa using g1)
    cases q with
    | fr =>
     obtain ⟨cs,g3⟩ := h2
     exact (hS.own _ _ g2).2 cs g3
    | own root' => exact key root' h2 h6
    | nm id => exact key id h2.1 h6
   ·cases q with
    | fr => simp only at h6; rw [g1] at h6; cases h6
    | own root' => exact (hS.own _ _ h2).2 cs g2
    | nm id => exact (hS.own _ _ h2.1).2 cs g2
  | kept K N =>
   obtain ⟨l,h7,h8,_⟩ := h5
   cases q with
   | fr => cases h6
   | own root' => cases h6
   | nm id =>
    simp only at h6
    obtain ⟨b,g1,g2⟩ := h8 id (by simpa using h6)
    rw [h2.2] at g1
    simp only [Option.some.injEq] at g1
    rw [h7]
    simp only
    rw [Bool.not_eq_true',Bool.eq_false_iff]
    intro hc
    exact g2 (by rw [← g1]; simpa using hc)
theorem keptL_get {h h' : SH C} : ∀ {n id : Nat},id ∈ keptL h h' n → id < n ∧ ∃ cs ds,hget h id = some (.cells cs) ∧ hget h' id = some (.cells ds) ∧ samePS cs ds = true
 | 0,id,hm => by cases hm
 | n + 1,id,hm => by
  unfold keptL at hm
  cases hb : keptB (hget h n) (hget h' n) with
  | false =>
   rw [hb] at hm
   obtain ⟨h1,h2⟩ := keptL_get (n := n) hm
   exact ⟨by omega,h2⟩
  | true =>
   rw [hb] at hm
   rcases List.mem_cons.1 hm with rfl | hm
   ·refine ⟨by omega, ?_⟩
    unfold keptB at hb
    split at hb
    ·rename_i cs ds e1 e2
     exact ⟨cs,ds,e1,e2,hb⟩
    ·cases hb
   ·obtain ⟨h1,h2⟩ := keptL_get (n := n) hm
    exact ⟨by omega,h2⟩
theorem samePS_ok {E E1 : Env} {n N : Nat} (hle : ∀ id b,E.β id = some b → E1.β id = some b) : ∀ {cs ds : List (SV C.T)} {as bs : List AVal},samePS cs ds = true → Ers E cs as → Ers E1 ds bs → samePs as bs = true
 | [],[],as,bs,_,h1,h2 => by rw [h1.inv_nil,h2.inv_nil]; rfl
 | [],_ :: _,as,bs,h,_,_ => by simp [samePS] at h
 | c :: cs,[],as,bs,h,_,_ => by cases c <;> simp [samePS] at h
 | c :: cs,d :: ds,as,bs,h,h1,h2 => by
  cases c <;> cases d <;> simp only [samePS] at h <;> try cases h
  simp only [Bool.and_eq_true,Nat.beq_eq] at h
  obtain ⟨⟨rfl,rfl⟩,h⟩ := h
  obtain ⟨a,as',rfl,g1,g2⟩ := h1.inv_cons
  obtain ⟨b,bs',rfl,g3,g4⟩ := h2.inv_cons
  cases g1 with
  | ptr q1 =>
   cases g3 with
   | ptr q2 =>
    have := hle _ _ q1
    rw [q2] at this
    simp only [Option.some.injEq] at this
    subst this
    simp only [samePs,Bool.and_eq_true,Nat.beq_eq]
    exact ⟨⟨trivial,trivial⟩,samePS_ok (n := n) (N := N) hle h g2 g4⟩
theorem sameNS_ok {E E1 : Env} (hle : ∀ id b,E.β id = some b → E1.β id = some b) : ∀ {cs ds : List (SV C.T)} {as bs : List AVal} {p : Prop},sameNS cs ds = some p → p → Ers E cs as → Ers E1 ds bs → samePs as bs = true
 | [],[],as,bs,_,_,_,h1,h2 => by rw [h1.inv_nil,h2.inv_nil]; rfl
 | [],_ :: _,as,bs,_,h,_,_,_ => by simp [sameNS] at h
 | c :: cs,[],as,bs,_,h,_,_,_ => by simp [sameNS] at h
 | c :: cs,d :: ds,as,bs,p,h,hp,h1,h2 => by
  obtain ⟨a,as',rfl,g1,g2⟩ := h1.inv_cons
  obtain ⟨b,bs',rfl,g3,g4⟩ := h2.inv_cons
  unfold sameNS at h
  split at h
  ·rename_i i o i' o'
   cases hb : (Nat.beq i i' && Nat.beq o o') with
   | false => rw [hb] at h; cases h
   | true =>
    rw [hb] at h
    simp only [Bool.and_eq_true,Nat.beq_eq] at hb
    obtain ⟨rfl,rfl⟩ := hb
    cases g1 with
    | ptr q1 =>
     cases g3 with
     | ptr q2 =>
      have := hle _ _ q1
      rw [q2] at this
      simp only [Option.some.injEq] at this
      subst this
      simp only [samePs,Bool.and_eq_true,Nat.beq_eq]
      exact ⟨⟨trivial,trivial⟩,sameNS_ok hle h hp g2 g4⟩
  ·split at h
   ·rename_i k n k' n' e1 e2
    split at h
    ·rename_i hk
     subst hk
     obtain ⟨q,hq,rfl⟩ := Option.map_eq_some_iff.1 h
     obtain ⟨rfl,hp⟩ := hp
     rw [intOf_ok g1 e1,intOf_ok g3 e2]
     simp only [samePs,decide_true,Bool.true_and]
     exact sameNS_ok hle hq hp g2 g4
    ·cases h
   ·cases h
theorem keptN_get {h h' : SH C} : ∀ {n id : Nat} {p : Prop},(id,p) ∈ keptN h h' n → id < n ∧ ∃ cs ds,hget h id = some (.cells cs) ∧ hget h' id = some (.cells ds) ∧ sameNS cs ds = some p
 | 0,id,p,hm => by cases hm
 | n + 1,id,p,hm => by
  unfold keptN at hm
  split at hm
  ·rename_i q hb
   rcases List.mem_cons.1 hm with e | hm
   ·cases e
    refine ⟨by omega, ?_⟩
    unfold keptNB at hb
    split at hb
    ·rename_i cs ds e1 e2
     exact ⟨cs,ds,e1,e2,hb⟩
    ·cases hb
   ·obtain ⟨h1,h2⟩ := keptN_get (n := n) hm
    exact ⟨by omega,h2⟩
  ·obtain ⟨h1,h2⟩ := keptN_get (n := n) hm
   exact ⟨by omega,h2⟩
theorem touch_value {S : AStat} {ρ : List AVal} {c : Call} {f : Operand} (hc : c.callee = .value f) {l : List Nat} (h : touchA S ρ (.call c) = some l) : l = [] := by
 obtain ⟨callee,args,ts⟩ := c
 simp only at hc
 subst hc
 simp only [touchA] at h
 split at h
 ·split at h
  ·cases h; rfl
  ·cases h
 ·cases h
theorem tk0_ok {S : AStat} {ρ : List AVal} {op : Op} {E1 : Env} {H H1 : Heap} {t : Option (List Nat × Bool)} (ht : ∀ ids other,t = some (ids,other) → ∃ l,touchA S ρ op = some l ∧ ∀ b,b ∈ l → (∃ root,root ∈ ids ∧ E1.ω b = some root) ∨ (other = true ∧ ∃ cs,E1.Fr b cs)) : TkOk E1 (touchD S ρ op H H1) (tk0 t) := by
 cases t with
 | none =>
  unfold touchD
  split
  ·exact ⟨_,rfl,(fun id h => by cases h),(fun id p h => by cases h)⟩
  ·exact ⟨_,rfl,(fun id h => by cases h),(fun id p h => by cases h)⟩
 | some p =>
  obtain ⟨ids,other⟩ := p
  obtain ⟨l,h1,h2⟩ := ht ids other rfl
  refine ⟨l, ?_,h2⟩
  unfold touchD
  rw [h1]
theorem tkX_ok {S : AStat} {lo wlo N : Nat} {ρ : List AVal} {ev : Operand → SV C.T} {op : Op} {E E1 : Env} {h h1 : SH C} {H H1 : Heap} (hS : SimH E lo wlo h H) (hS1 : SimH E1 lo wlo h1 H1) (hle : LeN h.length N E E1)
 (ht : ∀ ids other,touchX S h ev op = some (ids,other) → ∃ l,touchA S ρ op = some l ∧ ∀ b,b ∈ l → (∃ root,root ∈ ids ∧ E1.ω b = some root) ∨ (other = true ∧ ∃ cs,E1.Fr b cs)) : TkOk E1 (touchD S ρ op H H1) (tkX S h h1 ev op) := by
 have none' : TkOk E1 (touchD S ρ op H H1) (.kept [] []) := by
  unfold touchD
  split
  ·exact ⟨_,rfl,(fun id h => by cases h),(fun id p h => by cases h)⟩
  ·exact ⟨_,rfl,(fun id h => by cases h),(fun id p h => by cases h)⟩
 unfold tkX
 split
 ·rename_i ids o e
  have := tk0_ok (H := H) (H1 := H1) (t := some (ids,o)) (E1 := E1) (S := S) (ρ := ρ) (op := op) fun ids' other' e' => by cases e'; exact ht ids o e
  exact this
 ·cases op with
  | call c =>
   simp only
   split
   ·rename_i f hc
    have key : ∀ l,touchD S ρ (.call c) H H1 = some l → TkOk E1 (some l) (.kept (keptL h h1 h.length) (keptN h h1 h.length)) := by
     intro l hl
     have same : ∀ (id : Nat) (cs ds : List (SV C.T)),hget h id = some (.cells cs) → hget h1 id = some (.cells ds) → (∀ as bs,Ers E cs as → Ers E1 ds bs → samePs as bs = true) → ∃ b,E1.β id = some b ∧ b ∉ l := by
      intro id cs ds e1 e2 e3
      obtain ⟨b,as,k1,_,k2,k3⟩ := hS.obj id _ (hget_some e1)
      obtain ⟨b',bs,k4,_,k5,k6⟩ := hS1.obj id _ (hget_some e2)
      have hb := hle.le.β _ _ k1
      rw [k4] at hb
      simp only [Option.some.injEq] at hb
      subst hb
      refine ⟨b',k4,fun hm => ?_⟩
      unfold touchD at hl
      split at hl
      ·rename_i l' e
       cases hl
       rw [touch_value hc e] at hm
       cases hm
      ·cases hl
       have := (List.mem_filter.1 hm).2
       simp only at this
       rw [k2,k5,show sameB (some (some (.cells as))) (some (some (.cells bs))) = samePs as bs from rfl,e3 as bs k3 k6] at this
       cases this
     exact ⟨l,rfl,(fun id hid => by
      obtain ⟨hlt,cs,ds,e1,e2,e3⟩ := keptL_get hid
      exact same id cs ds e1 e2 fun as bs k3 k6 => samePS_ok (n := 0) (N := 0) hle.le.β e3 k3 k6),(fun id p hid hp => by
      obtain ⟨hlt,cs,ds,e1,e2,e3⟩ := keptN_get hid
      exact same id cs ds e1 e2 fun as bs k3 k6 => sameNS_ok hle.le.β e3 hp k3 k6)⟩
    cases htd : touchD S ρ (.call c) H H1 with
    | none => unfold touchD at htd; split at htd <;> cases htd
    | some l => exact key l htd
   ·exact none'
  | _ => exact none'
def newAt (ops : Array Oper) (j : Nat) : Bool := match ops[j]? with | some o => isNewB o.op | none => false
structure Pos (E : Env) (n0 : Nat) (ops : Array Oper) (k : Nat) (news : List (Nat × Nat)) (h : SH C) (H : Heap) : Prop where
 len : ∀ j,newAt ops j = true → n0 + j < H.length
 was : ∀ j,newAt ops j = true → (∃ id,(j,id) ∈ news ∧ E.β id = some (n0 + j)) ∨ E.ω (n0 + j) = none
 will : ∀ j,k ≤ j → newAt ops j = true → H[n0 + j]? = some none ∧ E.ω (n0 + j) = none
 ids : ∀ j id,(j,id) ∈ news → E.β id = some (n0 + j) ∧ id < h.length ∧ newAt ops j = true
 fr : ∀ b cs,E.Fr b cs → b < n0
theorem hidden_nil {ops : Array Oper} {B : List Nat} {n0 k : Nat} (h : noHid ops B k = true) : hidden ops B n0 k = [] := by
 unfold hidden
 rw [List.map_eq_nil_iff,List.filter_eq_nil_iff]
 intro j hj
 unfold noHid at h
 have := List.all_eq_true.1 h j hj
 cases ho : ops[j]? with
 | none => simp [ho]
 | some o =>
  simp only [ho] at this ⊢
  cases hn : isNewB o.op with
  | false => simp
  | true => simp only [hn,Bool.not_true,Bool.false_or,Bool.and_eq_true] at this; intro hc; rw [this.2] at hc; cases hc
theorem noHid_lt {ops : Array Oper} {B : List Nat} {k j : Nat} (h : noHid ops B k = true) (hj : newAt ops j = true) : j < k := by
 unfold newAt at hj
 split at hj
 ·rename_i o ho
  have hlt : j < ops.size := by
   rcases Nat.lt_or_ge j ops.size with h1 | h1
   ·exact h1
   ·rw [Array.getElem?_eq_none h1] at ho; cases ho
  unfold noHid at h
  have := List.all_eq_true.1 h j (List.mem_range.2 hlt)
  rw [ho] at this
  simp only [hj,Bool.not_true,Bool.false_or,Bool.and_eq_true] at this
  have := this.1
  rwa [Nat.blt_eq] at this
 ·cases hj
theorem mem_hidden {ops : Array Oper} {B : List Nat} {n0 k b : Nat} : b ∈ hidden ops B n0 k ↔ ∃ j,b = n0 + j ∧ newAt ops j = true ∧ (B.getD k 0).testBit j = false := by
 unfold hidden
 rw [List.mem_map]
 constructor
 ·rintro ⟨j,h1,rfl⟩
  rw [List.mem_filter] at h1
  obtain ⟨h1,h2⟩ := h1
  simp only [Bool.and_eq_true,Bool.not_eq_true'] at h2
  exact ⟨j,rfl,h2.1,h2.2⟩
 ·rintro ⟨j,rfl,h1,h2⟩
  refine ⟨j, ?_,rfl⟩
  rw [List.mem_filter,List.mem_range]
  unfold newAt at h1
  refine ⟨?_, ?_⟩
  ·rcases Nat.lt_or_ge j ops.size with h3 | h3
   ·exact h3
   ·rw [Array.getElem?_eq_none h3] at h1; cases h1
  ·simp only [Bool.and_eq_true,Bool.not_eq_true']
   exact ⟨h1,h2⟩
theorem hide_get : ∀ (bs : List Nat) (H : Heap) (b : Nat),(hide H bs)[b]? = if b ∈ bs then (if b < H.length then some none else none) else H[b]?
 | [],H,b => by simp [hide]
 | c :: bs,H,b => by
  simp only [hide]
  rw [hide_get bs,List.length_set,List.getElem?_set]
  by_cases h1 : b ∈ bs
  ·simp [h1]
  ·by_cases h2 : c = b
   ·subst h2; simp [h1]
   ·have h3 : ¬ b = c := fun e => h2 e.symm
    simp [h1,h2,h3]
theorem unhide_get (H0 : Heap) : ∀ (bs : List Nat) (H : Heap) (b : Nat),(unhide H0 H bs)[b]? = if b ∈ bs then (if b < H.length then some (H0.getD b none) else none) else H[b]?
 | [],H,b => by simp [unhide]
 | c :: bs,H,b => by
  simp only [unhide]
  rw [unhide_get H0 bs,List.length_set,List.getElem?_set]
  by_cases h1 : b ∈ bs
  ·simp [h1]
  ·by_cases h2 : c = b
   ·subst h2; simp [h1]
   ·have h3 : ¬ b = c := fun e => h2 e.symm
    simp [h1,h2,h3]
theorem hide_len : ∀ (bs : List Nat) (H : Heap),(hide H bs).length = H.length
 | [],H => rfl
 | c :: bs,H => by simp only [hide]; rw [hide_len bs,List.length_set]
theorem unhide_len (H0 : Heap) : ∀ (bs : List Nat) (H : Heap),(unhide H0 H bs).length = H.length
 | [],H => rfl
 | c :: bs,H => by simp only [unhide]; rw [unhide_len H0 bs,List.length_set]
theorem hideS_get : ∀ (ids : List Nat) (h : SH C) (i : Nat),(hideS h ids)[i]? = if i ∈ ids then (if i < h.length then some none else none) else h[i]?
 | [],h,i => by simp [hideS]
 | c :: ids,h,i => by
  simp only [hideS]
  rw [hideS_get ids,List.length_set,List.getElem?_set]
  by_cases h1 : i ∈ ids
  ·simp [h1]
  ·by_cases h2 : c = i
   ·subst h2; simp [h1]
   ·have h3 : ¬ i = c := fun e => h2 e.symm
    simp [h1,h2,h3]
theorem unhideS_get (h0 : SH C) : ∀ (ids : List Nat) (h : SH C) (i : Nat),(unhideS h0 h ids)[i]? = if i ∈ ids then (if i < h.length then some (h0.getD i none) else none) else h[i]?
 | [],h,i => by simp [unhideS]
 | c :: ids,h,i => by
  simp only [unhideS]
  rw [unhideS_get h0 ids,List.length_set,List.getElem?_set]
  by_cases h1 : i ∈ ids
  ·simp [h1]
  ·by_cases h2 : c = i
   ·subst h2; simp [h1]
   ·have h3 : ¬ i = c := fun e => h2 e.symm
    simp [h1,h2,h3]
theorem hideS_len : ∀ (ids : List Nat) (h : SH C),(hideS h ids).length = h.length
 | [],h => rfl
 | c :: ids,h => by simp only [hideS]; rw [hideS_len ids,List.length_set]
theorem unhideS_len (h0 : SH C) : ∀ (ids : List Nat) (h : SH C),(unhideS h0 h ids).length = h.length
 | [],h => rfl
 | c :: ids,h => by simp only [unhideS]; rw [unhideS_len h0 ids,List.length_set]
theorem SimH.hide {lo wlo : Nat} {h : SH C} {H : Heap} (hS : SimH E lo wlo h H) (ids bs : List Nat) (hb : ∀ b,b ∈ bs → (∀ cs,¬ E.Fr b cs) ∧ ∀ (i : Nat) (o : Obj C.T),h[i]? = some (some o) → E.β i = some b → i ∈ ids) : SimH E lo wlo (hideS h ids) (Am.hide H bs) := by
 have live : ∀ (i : Nat) (o : Obj C.T),(hideS h ids)[i]? = some (some o) → i ∉ ids ∧ h[i]? = some (some o) := by
  intro i o hi
  rw [hideS_get] at hi
  split at hi
  ·split at hi <;> cases hi
  ·rename_i hn; exact ⟨hn,hi⟩
 refine ⟨?_, ?_, ?_, ?_,hS.low, ?_, ?_,hS.βω,by rw [hideS_len]; exact hS.wl,by rw [hide_len]; exact hS.ll⟩
 ·intro i o hi
  obtain ⟨h1,h2⟩ := live i o hi
  refine (hS.obj i o h2).heap fun b hβ => ?_
  rw [hide_get,if_neg]
  exact fun hm => h1 ((hb b hm).2 i o h2 hβ)
 ·intro i i' o o' b hi hi'
  exact hS.inj i i' o o' b (live i o hi).2 (live i' o' hi').2
 ·intro b cs hf
  refine ⟨?_,fun i o hi => (hS.fr b cs hf).2 i o (live i o hi).2⟩
  rw [hide_get,if_neg]
  ·exact (hS.fr b cs hf).1
  ·exact fun hm => (hb b hm).1 cs hf
 ·intro i hi
  exact hS.fresh i (by rw [hideS_len] at hi; exact hi)
 ·intro i b hβ
  rw [hide_len]
  exact hS.bnd i b hβ
 ·intro b r hr
  rw [hide_len]
  exact hS.own b r hr
theorem SimH.unhide {lo wlo N : Nat} {h h' : SH C} {H H' : Heap} {E' : Env} (hS : SimH E lo wlo h H) {ids bs : List Nat} (hS' : SimH E' lo wlo h' H') (hle : LeN h.length N E E') (hh : h.length ≤ h'.length) (hH : H.length ≤ H'.length)
 (hsame : ∀ b,b < H.length → H'[b]? = (Am.hide H bs)[b]?) (hids : ∀ i,i ∈ ids → (∃ o : Obj C.T,h[i]? = some (some o)) ∧ ∃ b,E.β i = some b ∧ b ∈ bs) (hbs : ∀ b,b ∈ bs → b < H.length ∧ ∀ cs,¬ E.Fr b cs) :
 SimH E' lo wlo (unhideS h h' ids) (Am.unhide H H' bs) := by
 have dead : ∀ b,b ∈ bs → b < H.length → H'[b]? = some none := by
  intro b hb hl
  rw [hsame b hl,hide_get,if_pos hb,if_pos hl]
 have live : ∀ (i : Nat) (o : Obj C.T),(unhideS h h' ids)[i]? = some (some o) → (i ∉ ids ∧ h'[i]? = some (some o)) ∨ (i ∈ ids ∧ h[i]? = some (some o)) := by
  intro i o hi
  rw [unhideS_get] at hi
  split at hi
  ·rename_i hm
   obtain ⟨⟨o',ho⟩,_⟩ := hids i hm
   split at hi
   ·right
    refine ⟨hm, ?_⟩
    rw [List.getD_eq_getElem?_getD,ho] at hi
    simp only [Option.getD_some,Option.some.injEq] at hi
    rw [ho,hi]
   ·cases hi
  ·rename_i hn; exact .inl ⟨hn,hi⟩
 have notin : ∀ (i : Nat) (o : Obj C.T),h'[i]? = some (some o) → ∀ b,E'.β i = some b → b ∉ bs := by
  intro i o hi b hb hm
  have hbl := hS'.bnd i b hb
  have cell : ∃ blk,H'[b]? = some (some blk) := by
   cases o with
   | cells cs => obtain ⟨b',as,g1,_,g2,_⟩ := hS'.obj i _ hi; rw [hb] at g1; cases g1; exact ⟨_,g2⟩
   | mp es => obtain ⟨b',as,g1,_,g2,_⟩ := hS'.obj i _ hi; rw [hb] at g1; cases g1; exact ⟨_,g2⟩
   | it s pos => obtain ⟨b',g1,_,g2⟩ := hS'.obj i _ hi; rw [hb] at g1; cases g1; exact ⟨_,g2⟩
   | rows n l full root =>
    rcases hS'.obj i _ hi with ⟨_,g1,_⟩ | ⟨b',off,cap,ex,as,_,g1,_,g2,_⟩
    ·rw [hb] at g1; cases g1
    ·rw [hb] at g1; cases g1; exact ⟨_,g2⟩
  obtain ⟨blk,hc⟩ := cell
  rw [dead b hm (hbs b hm).1] at hc
  cases hc
 have old : ∀ i,i ∈ ids → i < h.length := fun i hi => by
  obtain ⟨⟨o,ho⟩,_⟩ := hids i hi
  exact lt_of_some ho
 have keep : ∀ b,b ∉ bs → (Am.unhide H H' bs)[b]? = H'[b]? := fun b hb => by rw [unhide_get,if_neg hb]
 have back : ∀ b,b ∈ bs → ∀ x,H[b]? = some x → (Am.unhide H H' bs)[b]? = H[b]? := fun b hb x hx => by
  rw [unhide_get,if_pos hb,if_pos (by have := lt_of_some hx; omega),List.getD_eq_getElem?_getD,hx]
  rfl
 refine ⟨?_, ?_, ?_, ?_,hS'.low, ?_, ?_,hS'.βω,by rw [unhideS_len]; exact hS'.wl,by rw [unhide_len]; exact hS'.ll⟩
 ·intro i o hi
  rcases live i o hi with ⟨h1,h2⟩ | ⟨h1,h2⟩
  ·exact (hS'.obj i o h2).heap fun b hb => keep b (notin i o h2 b hb)
  ·have hi' := old i h1
   refine ObjOk.mono hle.le (fun hn => by rw [(hle.old i hi').1]; exact hn) ((hS.obj i o h2).heap fun b hb => ?_)
   obtain ⟨_,b',hb',hm⟩ := hids i h1
   rw [hb] at hb'
   cases hb'
   cases hx : H[b]? with
   | none => have := hS.bnd i b hb; rw [List.getElem?_eq_none_iff] at hx; omega
   | some x => rw [← hx]; exact back b hm x hx
 ·intro i i' o o' b hi hi' hb hb'
  rcases live i o hi with ⟨h1,h2⟩ | ⟨h1,h2⟩ <;> rcases live i' o' hi' with ⟨h3,h4⟩ | ⟨h3,h4⟩
  ·exact hS'.inj i i' o o' b h2 h4 hb hb'
  ·obtain ⟨_,b',hb1,hm⟩ := hids i' h3
   have e := (hle.old i' (old i' h3)).1
   rw [e,hb1] at hb'
   cases hb'
   exact (notin i o h2 b hb hm).elim
  ·obtain ⟨_,b',hb1,hm⟩ := hids i h1
   have e := (hle.old i (old i h1)).1
   rw [e,hb1] at hb
   cases hb
   exact (notin i' o' h4 b hb' hm).elim
  ·rw [(hle.old i (old i h1)).1] at hb
   rw [(hle.old i' (old i' h3)).1] at hb'
   exact hS.inj i i' o o' b h2 h4 hb hb'
 ·intro b cs hf
  have hf0 := hle.fr b cs hf
  have hnb : b ∉ bs := fun hm => (hbs b hm).2 cs hf0
  refine ⟨by rw [keep b hnb]; exact (hS'.fr b cs hf).1,fun i o hi => ?_⟩
  rcases live i o hi with ⟨h1,h2⟩ | ⟨h1,h2⟩
  ·exact (hS'.fr b cs hf).2 i o h2
  ·rw [(hle.old i (old i h1)).1]
   exact (hS.fr b cs hf0).2 i o h2
 ·intro i hi
  exact hS'.fresh i (by rw [unhideS_len] at hi; exact hi)
 ·intro i b hb
  rw [unhide_len]
  exact hS'.bnd i b hb
 ·intro b r hr
  rw [unhide_len]
  exact hS'.own b r hr
end Go.Sy

/- Operations whose order is open, over symbolic values: the region. Generic: over any program. -/
namespace Go.Sy
open Go.Am
set_option linter.unusedVariables false
set_option linter.unusedSimpArgs false
variable {C : Codec} {E : Env}
theorem callA_pure {S : AStat} {rec : ExecF} {lo : Nat} {f : FuncId} {args : List AVal} {H H' : Heap} {r : AVal} (hh : (S.hook f).isNone = true) (hp : S.pol f = .pure) (h : callA S rec lo f args H = some (r,H')) : H' = H := by
 unfold callA at h
 split at h
 ·rename_i hk hhk
  rw [hhk] at hh
  cases hh
 ·split at h
  ·cases h
  ·split at h
   ·cases h
   ·split at h
    ·cases h
    ·cases h
    ·split at h
     ·cases h
     ·rw [hp] at h
      simp only [finish,Option.map_eq_some_iff] at h
      obtain ⟨v',_,e⟩ := h
      simp only [Prod.mk.injEq] at e
      exact e.2.symm
theorem fresh_same {S : AStat} (hL : HookLow S) {lo : Nat} {ρ : List AVal} {ev : Operand → SV C.T} (hev : ∀ x,Er E (ev x) (evalA S ρ x)) {H H' : Heap} {op : Op} {v : AVal} {n : Nat} (hf : freshOp S ev op = true) (h : effA S (callA S (execA S n)) lo ρ H op = some (v,H')) :
 ∀ b,b < H.length → H'[b]? = H[b]? := by
 unfold freshOp at hf
 split at hf
 ·rename_i c
  obtain ⟨callee,args,ts⟩ := c
  simp only at hf
  split at hf
  ·rename_i f
   have key : ∀ g x y,evalA S ρ f = .fn (.func g) x y → ((S.hook g).isNone && (S.pol g == .pure || S.pol g == .fresh)) = true → ∀ b,b < H.length → H'[b]? = H[b]? := by
    intro g x y e hc
    rw [Bool.and_eq_true,Bool.or_eq_true,beq_iff_eq,beq_iff_eq] at hc
    simp only [effA,e] at h
    split at h
    ·simp only [Option.some.injEq,Prod.mk.injEq] at h
     obtain ⟨_,rfl⟩ := h
     exact fun _ _ => rfl
    ·rcases hc.2 with hp | hp
     ·rw [callA_pure hc.1 hp h]
      exact fun _ _ => rfl
     ·exact (callA_fresh (execA_low hL n) hc.1 hp h).2
   have hx := hev f
   split at hf
   ·rename_i g x y e
    rw [e] at hx
    generalize hv : evalA S ρ f = w at hx
    cases hx
    exact key g x y hv hf
   ·rename_i g x y e
    rw [e] at hx
    generalize hv : evalA S ρ f = w at hx
    cases hx
    exact key g _ _ hv hf
   ·cases hf
  ·cases hf
 ·cases hf
theorem drawGoX_ok {F : Cf C} (hC : CodecOk C) (hX : ExtNo F.S F.noExt) (hL : HookLow F.S) {call : CallX C} (hcall : CallOkX F.S call) {lo wlo n0 : Nat} (hlo : lo ≤ n0) {ops : Array Oper} {B : List Nat} {K : SR C → SH C → Tree} :
 ∀ {l : List Oper} {k : Nat} {E : Env} {r : SR C} {ρ : List AVal} {h : SH C} {H : Heap} {news : List (Nat × Nat)} {rd : RdS} {tc : TcS} {rA : List (Nat × Nat)} {tA : List (Nat × Option (List Nat))},l = ops.toList.drop k → SimR E r ρ → SimH E lo wlo h H → n0 ≤ H.length → Pos E n0 ops k news h H → RdOk E rA rd → TcOk E tA tc →
 (drawGoX F call wlo ops B l k r h news rd tc K).holds →
 ∃ n x E' r' h',drawGo F.S (callA F.S (execA F.S n)) lo n0 ops B l k ρ H = some x ∧ (∀ p,p ∈ rA ∨ p ∈ x.reads → ∀ q,q ∈ tA ∨ q ∈ x.touches → apart1 B p q = true) ∧ LeN h.length n0 E E' ∧ h.length ≤ h'.length ∧ SimR E' r' x.ρ ∧ SimH E' lo wlo h' x.H ∧ H.length ≤ x.H.length ∧ (K r' h').holds
 | [],k,E,r,ρ,h,H,news,rd,tc,rA,tA,hl,hR,hS,hn0,hP,hrd,htc,hh => by
  unfold drawGoX at hh
  have key : (K r h).holds ∧ ∀ x,x ∈ rd → ∀ t,t ∈ tc → PairOk B x t := by
   cases ha : apartS B rd tc with
   | false =>
    rw [ha] at hh
    obtain ⟨h1,h2⟩ := apartN_ok hh
    exact ⟨h1,fun x hx t ht => h2 (x,t) (pairsS_mem hx ht)⟩
   | true =>
    rw [ha] at hh
    exact ⟨hh,apartS_pair ha⟩
  refine ⟨0,⟨[],[],ρ,H⟩,E,r,h,rfl, ?_,LeN.refl _ _,Nat.le_refl _,hR,hS,Nat.le_refl _,key.1⟩
  intro p hp q hq
  simp only [List.not_mem_nil,or_false] at hp hq
  exact apartS_ok hS hrd htc key.2 p hp q hq
 | o :: l,k,E,r,ρ,h,H,news,rd,tc,rA,tA,hl,hR,hS,hn0,hP,hrd,htc,hh => by
  have hok : ops[k]? = some o := by
   have : (ops.toList.drop k)[0]? = some o := by rw [← hl]; rfl
   rw [List.getElem?_drop] at this
   simpa using this
  have hl' : l = ops.toList.drop (k + 1) := by rw [← List.drop_drop,← hl]; rfl
  have pos' : ∀ {E' : Env} {h' : SH C} {H' : Heap},LeN h.length n0 E E' → h.length ≤ h'.length → H.length ≤ H'.length → (∀ j,newAt ops j = true → E.ω (n0 + j) = none → E'.ω (n0 + j) = none) → (∀ j,k + 1 ≤ j → newAt ops j = true → H'[n0 + j]? = some none) → Pos E' n0 ops (k + 1) news h' H' := by
   intro E' h' H' hle hhl hHl hω hw
   refine ⟨fun j hj => Nat.lt_of_lt_of_le (hP.len j hj) hHl,fun j hj => ?_,fun j hk hj => ⟨hw j hk hj,hω j hj (hP.will j (by omega) hj).2⟩,fun j id hm => ?_,fun b cs hf => hP.fr b cs (hle.fr b cs hf)⟩
   ·rcases hP.was j hj with ⟨id,h1,h2⟩ | h1
    ·exact .inl ⟨id,h1,hle.le.β _ _ h2⟩
    ·exact .inr (hω j hj h1)
   ·obtain ⟨h1,h2,h3⟩ := hP.ids j id hm
    exact ⟨hle.le.β _ _ h1,by omega,h3⟩
  unfold drawGoX at hh
  rcases guardX_ok hR hh with ⟨hg,r1,hR1,h1⟩ | ⟨hg,r1,hR1,h1⟩
  ·cases hn : isNewB o.op with
   | true =>
    rw [hn] at h1
    simp only [cond_true] at h1
    have hat : newAt ops k = true := by simp only [newAt,hok,hn]
    obtain ⟨hnone,hωk⟩ := hP.will k (Nat.le_refl _) hat
    have hlen := hP.len k hat
    obtain ⟨blk,mkA,ob,mk,e1,e2,e3⟩ := newX_ok hC hR1.ev h1
    have hset : ∀ b,b ≠ n0 + k → (H.set (n0 + k) (some blk))[b]? = H[b]? := fun b hb => by rw [List.getElem?_set,if_neg (fun e => hb e.symm)]
    have hat2 : (H.set (n0 + k) (some blk))[n0 + k]? = some (some blk) := by rw [List.getElem?_set,if_pos rfl,if_pos hlen]
    have hp := hS.push n0 (H' := H.set (n0 + k) (some blk)) (ob h.length) (mkA (n0 + k)) (n0 + k) (by simpa using hlen) (by omega) (by omega) (.inr ⟨hnone,hωk⟩) (by simp) (fun b _ hb => hset b hb)
     (fun hle => (e3 _ _ h.length (n0 + k) hle.le (by simp [Env.put]) (by simp [Env.put]) (by simp [Env.put]) hat2).1)
    have her := (e3 _ _ h.length (n0 + k) hp.1.le (by simp [Env.put]) (by simp [Env.put]) (by simp [Env.put]) hat2).2
    have hP' : Pos (E.put h.length (some (n0 + k)) (mkA (n0 + k)) h.length) n0 ops (k + 1) ((k,h.length) :: news) (h ++ [some (ob h.length)]) (H.set (n0 + k) (some blk)) := by
     refine ⟨fun j hj => by simpa using hP.len j hj,fun j hj => ?_,fun j hk hj => ?_,fun j id hm => ?_,hP.fr⟩
     ·by_cases hjk : j = k
      ·subst hjk
       exact .inl ⟨h.length,by simp,by simp [Env.put]⟩
      ·rcases hP.was j hj with ⟨id,h1,h2⟩ | h1
       ·exact .inl ⟨id,by simp [h1],hp.1.le.β _ _ h2⟩
       ·right
        simp only [Env.put]
        rw [if_neg (by simp; omega)]
        exact h1
     ·obtain ⟨h1,h2⟩ := hP.will j (by omega) hj
      refine ⟨by rw [hset _ (by omega)]; exact h1, ?_⟩
      simp only [Env.put]
      rw [if_neg (by simp; omega)]
      exact h2
     ·rcases List.mem_cons.1 hm with e | hm
      ·cases e
       exact ⟨by simp [Env.put],by simp,hat⟩
      ·obtain ⟨h1,h2,h3⟩ := hP.ids j id hm
       exact ⟨hp.1.le.β _ _ h1,by simp; omega,h3⟩
    obtain ⟨n,x,E',r',h',k1,k2,k3,k4,k5,k6,k7,k8⟩ := drawGoX_ok hC hX hL hcall hlo hl' ((hR1.mono hp.1.le).put her) hp.2 (by simpa using hn0) hP' (hrd.mono hp.1.le) (htc.mono hp.1.le) e2
    refine ⟨n,x,E',r',h', ?_,k2,hp.1.trans (by simp) (Nat.le_refl _) k3,by simp at k4; omega,k5,k6,by simpa using k7,k8⟩
    unfold drawGo
    simp only [hg,hn,if_true,e1,hnone]
    exact k1
   | false =>
    rw [hn] at h1
    simp only [cond_false] at h1
    cases he : isEffB o.op with
    | false =>
     rw [he] at h1
     simp only [cond_false] at h1
     obtain ⟨v,H1,sv,h1',E1,⟨e1,rfl⟩,e2,e3,e4,e5,e6,e7⟩ := quietX_ok hC hR1.ev hS h1
     have e2' : LeN h.length n0 E E1 := ⟨e2.le,e2.old,e2.fr,fun b r hb => (e2.own b r hb).imp_right fun h => by omega⟩
     have hω : ∀ j,newAt ops j = true → E.ω (n0 + j) = none → E1.ω (n0 + j) = none := by
      intro j hj h0
      cases hw : E1.ω (n0 + j) with
      | none => rfl
      | some q =>
       rcases e2.own _ _ hw with h2 | h2
       ·rw [h0] at h2; cases h2
       ·have := hP.len j hj; omega
     have hP' : Pos E1 n0 ops (k + 1) news h1' H1 := pos' e2' e3 e5 hω (fun j hk hj => (hP.will j (by omega) hj).1)
     have hread := fun b hb => readX_ok (S := F.S) hR1.ev hS h1 (b := b) hb
     cases hra : readsA F.S ρ o.op with
     | none =>
      have hrd' : RdOk E1 rA (match readX h (sEval F.S r1.get) o.op with | some q => (k,q) :: rd | none => rd) := by
       intro i b hb
       obtain ⟨q,g1,g2⟩ := (hrd.mono e2.le) i b hb
       exact ⟨q,by split <;> simp [g1],g2⟩
      obtain ⟨n,x,E',r',h',k1,k2,k3,k4,k5,k6,k7,k8⟩ := drawGoX_ok hC hX hL hcall hlo hl' ((hR1.mono e2.le).put e6) e4 hn0 hP' hrd' (htc.mono e2.le) e7
      refine ⟨n,x,E',r',h', ?_,k2,e2'.trans e3 (Nat.le_refl _) k3,Nat.le_trans e3 k4,k5,k6,k7,k8⟩
      unfold drawGo
      simp only [hg,hn,Bool.false_eq_true,if_false,he,e1,k1,hra]
     | some b =>
      obtain ⟨q,g1,g2⟩ := hread b hra
      have hrd' : RdOk E1 ((k,b) :: rA) (match readX h (sEval F.S r1.get) o.op with | some q => (k,q) :: rd | none => rd) := by
       rw [g1]
       intro i b' hb
       rcases List.mem_cons.1 hb with e | hb
       ·cases e
        exact ⟨q,by simp,g2.mono e2.le⟩
       ·obtain ⟨q',g4,g5⟩ := (hrd.mono e2.le) i b' hb
        exact ⟨q',by simp [g4],g5⟩
      obtain ⟨n,x,E',r',h',k1,k2,k3,k4,k5,k6,k7,k8⟩ := drawGoX_ok hC hX hL hcall hlo hl' ((hR1.mono e2.le).put e6) e4 hn0 hP' hrd' (htc.mono e2.le) e7
      refine ⟨n,{ x with reads := (k,b) :: x.reads },E',r',h', ?_, ?_,e2'.trans e3 (Nat.le_refl _) k3,Nat.le_trans e3 k4,k5,k6,k7,k8⟩
      ·unfold drawGo
       simp only [hg,hn,Bool.false_eq_true,if_false,he,e1,k1,hra]
      ·intro p hp q hq
       refine k2 p ?_ q hq
       rcases hp with hp | hp
       ·exact .inl (by simp [hp])
       ·rcases List.mem_cons.1 hp with hp | hp
        ·exact .inl (by simp [hp])
        ·exact .inr hp
    | true =>
     rw [he] at h1
     simp only [cond_true] at h1
     have htouch : ∀ (op : Op),o.op = op → ∀ {hx : SH C} {K' : SV C.T → SH C → Tree},(effX F.S F.noExt call wlo (sEval F.S r1.get) hx op K').holds → (∀ id ob,hget hx id = some ob → hget h id = some ob) → ∀ ids other,touchX F.S h (sEval F.S r1.get) op = some (ids,other) → ∃ l,touchA F.S ρ op = some l ∧ ∀ b,b ∈ l → (∃ root,root ∈ ids ∧ E.ω b = some root) ∨ (other = true ∧ ∃ cs,E.Fr b cs) := by
      intro op hop hx K' hK hsub ids other ht
      refine touchX_ok hR1.ev hS ht ?_ ?_ ?_
      ·rintro t x v rfl
       simp only [effX] at hK
       obtain ⟨id,g⟩ := storeX_live hK
       refine ⟨id, ?_⟩
       rcases g with ⟨off,g1,cs,g2⟩ | ⟨i,off,g1,n,ll,full,root,g2,g3⟩
       ·exact .inl ⟨off,g1,cs,hsub _ _ g2⟩
       ·exact .inr ⟨i,off,g1,n,ll,full,root,hsub _ _ g2,g3⟩
      ·rintro t m x v rfl
       simp only [effX] at hK
       obtain ⟨id,es,g1,g2⟩ := mapUpdX_live hK
       exact ⟨id,es,g1,hsub _ _ g2⟩
      ·rintro c x sz id off len cap ex rfl hc h0 hx0
       simp only [effX,hc] at hK
       split at hK
       ·rename_i s x' t u q1 q2
        have hs : s = .sl sz id off len cap ex := by
         cases hargs : c.args.toList with
         | nil => rw [hargs] at q1; simp at q1
         | cons a0 rest =>
          rw [hargs] at q1
          simp only [List.map_cons,List.cons.injEq] at q1
          have : c.args[0]? = some a0 := by
           have : c.args.toList[0]? = some a0 := by rw [hargs]; rfl
           simpa using this
          rw [this] at h0
          cases h0
          rw [← q1.1,hx0]
        rw [hs] at hK
        obtain ⟨cs,g⟩ := appendX_live hK
        exact ⟨cs,hsub _ _ g⟩
       ·exact (stuck_no hK).elim
     cases hnh : noHid ops B k with
     | true =>
      rw [hnh] at h1
      simp only [cond_true] at h1
      obtain ⟨v,H1,sv,h1',E1,⟨n1,e1⟩,e2,e3,e4,e5,e6,e7⟩ := effX_ok hC hX hcall hR1.ev hS h1
      have e2' : LeN h.length n0 E E1 := ⟨e2.le,e2.old,e2.fr,fun b r hb => (e2.own b r hb).imp_right fun h => by omega⟩
      have hω : ∀ j,newAt ops j = true → E.ω (n0 + j) = none → E1.ω (n0 + j) = none := by
       intro j hj h0
       cases hw : E1.ω (n0 + j) with
       | none => rfl
       | some q =>
        rcases e2.own _ _ hw with h2 | h2
        ·rw [h0] at h2; cases h2
        ·have := hP.len j hj; omega
      have hP' : Pos E1 n0 ops (k + 1) news h1' H1 := pos' e2' e3 e5 hω (fun j hk hj => by have := noHid_lt hnh hj; omega)
      have htc' : TcOk E1 ((k,touchD F.S ρ o.op H H1) :: tA) ((k,tkX F.S h h1' (sEval F.S r1.get) o.op) :: tc) := by
       intro i oo ho
       rcases List.mem_cons.1 ho with e | ho
       ·cases e
        refine ⟨_,List.mem_cons_self,tkX_ok hS e4 e2 fun ids other e => ?_⟩
        obtain ⟨ll,g1,g2⟩ := htouch o.op rfl h1 (fun _ _ h => h) ids other e
        exact ⟨ll,g1,fun b hb => (g2 b hb).imp (fun ⟨root,p,q⟩ => ⟨root,p,e2.le.ω _ _ q⟩) (fun ⟨p,cs,q⟩ => ⟨p,cs,e2.le.Fr _ _ q⟩)⟩
       ·obtain ⟨s,g1,g2⟩ := (htc.mono e2.le) i oo ho
        exact ⟨s,by simp [g1],g2⟩
      obtain ⟨n,x,E',r',h',k1,k2,k3,k4,k5,k6,k7,k8⟩ := drawGoX_ok hC hX hL hcall hlo hl' ((hR1.mono e2.le).put e6) e4 (by omega) hP' (hrd.mono e2.le) htc' e7
      refine ⟨max n1 n,{ x with touches := (k,touchD F.S ρ o.op H H1) :: x.touches },E',r',h', ?_, ?_,e2'.trans e3 (Nat.le_refl _) k3,Nat.le_trans e3 k4,k5,k6,Nat.le_trans e5 k7,k8⟩
      ·unfold drawGo
       simp only [hg,hn,Bool.false_eq_true,if_false,he,if_true,hidden_nil hnh,Am.hide,Am.unhide]
       rw [effA_mono (callA_mono (execA_mono (Nat.le_max_left n1 n))) e1]
       simp only
       rw [if_pos e5,drawGo_mono (callA_mono (execA_mono (Nat.le_max_right n1 n))) k1]
      ·intro p hp q hq
       refine k2 p hp q ?_
       rcases hq with hq | hq
       ·exact .inl (by simp [hq])
       ·rcases List.mem_cons.1 hq with hq | hq
        ·exact .inl (by simp [hq])
        ·exact .inr hq
     | false =>
      rw [hnh] at h1
      simp only [cond_false] at h1
      cases hf : freshOp F.S (sEval F.S r1.get) o.op && ((hidIds B k news).all fun id => (hget h id).isSome) with
      | false => rw [hf] at h1; exact (stuck_no h1).elim
      | true =>
       rw [hf] at h1
       simp only [cond_true] at h1
       rw [Bool.and_eq_true] at hf
       obtain ⟨hfr,hlive⟩ := hf
       -- what is hidden
       have hbsl : ∀ b,b ∈ hidden ops B n0 k → b < H.length ∧ ∀ cs,¬ E.Fr b cs := by
        intro b hb
        obtain ⟨j,rfl,h2,h3⟩ := mem_hidden.1 hb
        exact ⟨hP.len j h2,fun cs hcs => by have := hP.fr _ cs hcs; omega⟩
       have hlive' : ∀ i,i ∈ hidIds B k news → ∃ o : Obj C.T,h[i]? = some (some o) := by
        intro i hi
        have := List.all_eq_true.1 hlive i hi
        obtain ⟨o,ho⟩ := Option.isSome_iff_exists.1 this
        exact ⟨o,hget_some ho⟩
       have hnews : ∀ i,i ∈ hidIds B k news → ∃ j,(j,i) ∈ news ∧ (B.getD k 0).testBit j = false := by
        intro i hi
        simp only [hidIds,List.mem_map,List.mem_filter,Bool.not_eq_true'] at hi
        obtain ⟨⟨j,i'⟩,⟨h2,h3⟩,rfl⟩ := hi
        exact ⟨j,h2,h3⟩
       have hids : ∀ i,i ∈ hidIds B k news → (∃ o : Obj C.T,h[i]? = some (some o)) ∧ ∃ b,E.β i = some b ∧ b ∈ hidden ops B n0 k := by
        intro i hi
        obtain ⟨j,h2,h3⟩ := hnews i hi
        obtain ⟨h4,h5,h6⟩ := hP.ids j i h2
        exact ⟨hlive' i hi,_,h4,mem_hidden.2 ⟨j,rfl,h6,h3⟩⟩
       have hSh := hS.hide (hidIds B k news) (hidden ops B n0 k) (by
        intro b hb
        refine ⟨(hbsl b hb).2,fun i o hio hβ => ?_⟩
        obtain ⟨j,rfl,h2,h3⟩ := mem_hidden.1 hb
        rcases hP.was j h2 with ⟨id,g1,g2⟩ | g1
        ·have hm : id ∈ hidIds B k news := by
          simp only [hidIds,List.mem_map,List.mem_filter,Bool.not_eq_true']
          exact ⟨(j,id),⟨g1,h3⟩,rfl⟩
         obtain ⟨o',ho'⟩ := hlive' id hm
         have := hS.inj i id o o' _ hio ho' hβ g2
         subst this
         exact hm
        ·obtain ⟨rr,g2⟩ := hS.βω i _ hβ
         rw [g1] at g2
         cases g2)
       obtain ⟨v,H1,sv,h1',E1,⟨n1,e1⟩,e2,e3,e4,e5,e6,e7⟩ := effX_ok hC hX hcall hR1.ev hSh h1
       have hsame := fresh_same hL hR1.ev hfr e1
       rw [hideS_len,hide_len] at e2
       rw [hideS_len] at e3
       rw [hide_len] at e5 hsame
       have hSu := hS.unhide e4 e2 e3 e5 hsame hids hbsl
       have e2' : LeN h.length n0 E E1 := ⟨e2.le,e2.old,e2.fr,fun b r hb => (e2.own b r hb).imp_right fun h => by omega⟩
       have hω : ∀ j,newAt ops j = true → E.ω (n0 + j) = none → E1.ω (n0 + j) = none := by
        intro j hj h0
        cases hw : E1.ω (n0 + j) with
        | none => rfl
        | some q =>
         rcases e2.own _ _ hw with h2 | h2
         ·rw [h0] at h2; cases h2
         ·have := hP.len j hj; omega
       have hP' : Pos E1 n0 ops (k + 1) news (unhideS h h1' (hidIds B k news)) (Am.unhide H H1 (hidden ops B n0 k)) := pos' e2' (by rw [unhideS_len]; exact e3) (by rw [unhide_len]; exact e5) hω (fun j hk hj => by
        have hw := (hP.will j (by omega) hj).1
        have hlt := hP.len j hj
        rw [unhide_get]
        split
        ·rw [if_pos (by omega),List.getD_eq_getElem?_getD,hw]
         rfl
        ·rename_i hnm
         rw [hsame _ hlt,hide_get,if_neg hnm]
         exact hw)
       have htc' : TcOk E1 ((k,touchD F.S ρ o.op (Am.hide H (hidden ops B n0 k)) H1) :: tA) ((k,tk0 (touchX F.S h (sEval F.S r1.get) o.op)) :: tc) := by
        intro i oo ho
        rcases List.mem_cons.1 ho with e | ho
        ·cases e
         refine ⟨_,List.mem_cons_self,tk0_ok fun ids other e => ?_⟩
         obtain ⟨ll,g1,g2⟩ := htouch o.op rfl h1 (fun id ob hg => by
          have := hget_some hg
          rw [hideS_get] at this
          split at this
          ·split at this <;> cases this
          ·simp only [hget,this]) ids other e
         exact ⟨ll,g1,fun b hb => (g2 b hb).imp (fun ⟨root,p,q⟩ => ⟨root,p,e2.le.ω _ _ q⟩) (fun ⟨p,cs,q⟩ => ⟨p,cs,e2.le.Fr _ _ q⟩)⟩
        ·obtain ⟨s,g1,g2⟩ := (htc.mono e2.le) i oo ho
         exact ⟨s,by simp [g1],g2⟩
       obtain ⟨n,x,E',r',h',k1,k2,k3,k4,k5,k6,k7,k8⟩ := drawGoX_ok hC hX hL hcall hlo hl' ((hR1.mono e2.le).put e6) hSu (by rw [unhide_len]; omega) hP' (hrd.mono e2.le) htc' e7
       rw [unhideS_len] at k3 k4
       rw [unhide_len] at k7
       refine ⟨max n1 n,{ x with touches := (k,touchD F.S ρ o.op (Am.hide H (hidden ops B n0 k)) H1) :: x.touches },E',r',h', ?_, ?_,e2'.trans e3 (Nat.le_refl _) k3,Nat.le_trans e3 k4,k5,k6,Nat.le_trans e5 k7,k8⟩
       ·unfold drawGo
        simp only [hg,hn,Bool.false_eq_true,if_false,he,if_true]
        rw [effA_mono (callA_mono (execA_mono (Nat.le_max_left n1 n))) e1]
        simp only
        rw [if_pos e5,drawGo_mono (callA_mono (execA_mono (Nat.le_max_right n1 n))) k1]
       ·intro p hp q hq
        refine k2 p hp q ?_
        rcases hq with hq | hq
        ·exact .inl (by simp [hq])
        ·rcases List.mem_cons.1 hq with hq | hq
         ·exact .inl (by simp [hq])
         ·exact .inr hq
  ·have hP' : Pos E n0 ops (k + 1) news h H := pos' (LeN.refl _ _) (Nat.le_refl _) (Nat.le_refl _) (fun _ _ h => h) (fun j hk hj => (hP.will j (by omega) hj).1)
   obtain ⟨n,x,E',r',h',k1,k2,k3,k4,k5,k6,k7,k8⟩ := drawGoX_ok hC hX hL hcall hlo hl' (hR1.put (.a undefA)) hS hn0 hP' hrd htc h1
   refine ⟨n,x,E',r',h', ?_,k2,k3,k4,k5,k6,k7,k8⟩
   unfold drawGo
   simp only [hg]
   exact k1
theorem drawX_ok {F : Cf C} (hC : CodecOk C) (hX : ExtNo F.S F.noExt) (hL : HookLow F.S) {call : CallX C} (hcall : CallOkX F.S call) {lo wlo : Nat} {ops : Array Oper} {K : SR C → SH C → Tree} {r : SR C} {ρ : List AVal} {h : SH C} {H : Heap} (hR : SimR E r ρ) (hS : SimH E lo wlo h H)
 (hh : (drawX F call wlo ops r h K).holds) : Go2 E lo wlo h H (fun ρ' H' => ∃ n,drawA F.S (callA F.S (execA F.S n)) lo ops ρ H = some (ρ',H')) K := by
 unfold drawX at hh
 cases hreg : regionOk ops (befs ops.toList []) with
 | false => rw [hreg] at hh; exact (stuck_no hh).elim
 | true =>
  rw [hreg] at hh
  simp only [cond_true] at hh
  have hfrlt : ∀ b cs,E.Fr b cs → b < H.length := fun b cs hf => lt_of_some (hS.fr b cs hf).1
  have hnew : ∀ j,newAt ops j = true → ops.any (fun o => isNewB o.op) = true ∧ j < ops.size := by
   intro j hj
   unfold newAt at hj
   split at hj
   ·rename_i o ho
    have hlt : j < ops.size := by
     rcases Nat.lt_or_ge j ops.size with h1 | h1
     ·exact h1
     ·rw [Array.getElem?_eq_none h1] at ho; cases ho
    refine ⟨?_,hlt⟩
    rw [Array.any_eq_true]
    refine ⟨j,hlt, ?_⟩
    rw [Array.getElem?_eq_getElem hlt] at ho
    simp only [Option.some.injEq] at ho
    rw [ho]
    exact hj
   ·cases hj
  have ext : SimH E lo wlo h (H ++ List.replicate ops.size none) := by
   refine ⟨fun i o hi => (hS.obj i o hi).heap fun b hb => List.getElem?_append_left (hS.bnd i b hb),hS.inj,fun b cs hf => ⟨by rw [List.getElem?_append_left (hfrlt b cs hf)]; exact (hS.fr b cs hf).1,(hS.fr b cs hf).2⟩,hS.fresh,hS.low,fun i b hb => ?_,fun b r hr => ?_,hS.βω,hS.wl, ?_⟩
   ·have := hS.bnd i b hb; simp; omega
   ·have := hS.own b r hr; exact ⟨by simp; omega,this.2⟩
   ·have := hS.ll; simp; omega
  have hω : ∀ j,E.ω (H.length + j) = none := by
   intro j
   cases hw : E.ω (H.length + j) with
   | none => rfl
   | some r => have := (hS.own _ _ hw).1; omega
  obtain ⟨n,x,E',r',h',k1,k2,k3,k4,k5,k6,k7,k8⟩ : ∃ n x E' r' h',drawGo F.S (callA F.S (execA F.S n)) lo H.length ops (befs ops.toList []) ops.toList 0 ρ (if ops.any (fun o => isNewB o.op) then H ++ List.replicate ops.size none else H) = some x ∧ (∀ p,p ∈ ([] : List (Nat × Nat)) ∨ p ∈ x.reads → ∀ q,q ∈ ([] : List (Nat × Option (List Nat))) ∨ q ∈ x.touches → apart1 (befs ops.toList []) p q = true) ∧ LeN h.length H.length E E' ∧ h.length ≤ h'.length ∧ SimR E' r' x.ρ ∧ SimH E' lo wlo h' x.H ∧ H.length ≤ x.H.length ∧ (K r' h').holds := by
   by_cases hany : ops.any (fun o => isNewB o.op) = true
   ·rw [if_pos hany]
    obtain ⟨n,x,E',r',h',k1,k2,k3,k4,k5,k6,k7,k8⟩ := drawGoX_ok (rA := []) (tA := []) hC hX hL hcall hS.ll (l := ops.toList) (k := 0) (by simp) hR ext (by simp) (by
     refine ⟨fun j hj => ?_,fun j hj => .inr (hω j),fun j _ hj => ⟨?_,hω j⟩,fun j id hm => by simp at hm,hfrlt⟩
     ·have := (hnew j hj).2; simp; omega
     ·have := (hnew j hj).2
      rw [List.getElem?_append_right (by omega),List.getElem?_replicate,if_pos (by omega)]) (fun i b hb => by simp at hb) (fun i o ho => by simp at ho) hh
    exact ⟨n,x,E',r',h',k1,k2,k3,k4,k5,k6,by simp at k7; omega,k8⟩
   ·rw [if_neg hany]
    obtain ⟨n,x,E',r',h',k1,k2,k3,k4,k5,k6,k7,k8⟩ := drawGoX_ok (rA := []) (tA := []) hC hX hL hcall hS.ll (l := ops.toList) (k := 0) (by simp) hR hS (Nat.le_refl _) (by
     refine ⟨fun j hj => (hany (hnew j hj).1).elim,fun j hj => (hany (hnew j hj).1).elim,fun j _ hj => (hany (hnew j hj).1).elim,fun j id hm => by simp at hm,hfrlt⟩) (fun i b hb => by simp at hb) (fun i o ho => by simp at ho) hh
    exact ⟨n,x,E',r',h',k1,k2,k3,k4,k5,k6,k7,k8⟩
  refine ⟨x.ρ,x.H,r',h',E',⟨n, ?_⟩,k3,k4,k5,k6,k7,k8⟩
  unfold drawA
  simp only [hreg,Bool.true_and,decide_eq_true_eq]
  rw [if_pos hS.ll,k1]
  simp only
  rw [if_pos]
  unfold apartB
  rw [List.all_eq_true]
  intro p hp
  rw [List.all_eq_true]
  intro q hq
  exact k2 p (.inr hp) q (.inr hq)
end Go.Sy

/- A run of code over symbolic values, into calls, up to its cuts: it is sound. Generic: over any program. -/
namespace Go.Sy
open Go.Am
set_option linter.unusedVariables false
set_option linter.unusedSimpArgs false
variable {C : Codec} {E : Env}
inductive RunsK (S : AStat) (lo : Nat) : List Kt → List AVal → Heap → (AExit × List AVal × Heap) → Prop
 | nil {ρ : List AVal} {H : Heap} : RunsK S lo [] ρ H (.normal,ρ,H)
 | blk {id : Nat} {k : List Kt} {ρ : List AVal} {H : Heap} {r : AExit × List AVal × Heap} : RunsK S lo k ρ H r → RunsK S lo (.blk id :: k) ρ H r
 | lp {b : Code} {k : List Kt} {ρ : List AVal} {H : Heap} {r : AExit × List AVal × Heap} : RunsK S lo (.c (.loop b) :: k) ρ H r → RunsK S lo (.lp b :: k) ρ H r
 | c {x : Code} {k : List Kt} {ρ ρ' : List AVal} {H H' : Heap} {r : AExit × List AVal × Heap} : Runs S lo x ρ H (.normal,ρ',H') → RunsK S lo k ρ' H' r → RunsK S lo (.c x :: k) ρ H r
 | ret {x : Code} {k : List Kt} {ρ ρ' : List AVal} {H H' : Heap} : Runs S lo x ρ H (.ret,ρ',H') → RunsK S lo (.c x :: k) ρ H (.ret,ρ',H')
 | exit {x : Code} {k k' : List Kt} {i : Nat} {ρ ρ' : List AVal} {H H' : Heap} {r : AExit × List AVal × Heap} : Runs S lo x ρ H (.exit i,ρ',H') → unwind i k = some k' → RunsK S lo k' ρ' H' r → RunsK S lo (.c x :: k) ρ H r
section
variable {S : AStat} {lo : Nat}
theorem RunsK.seq {a b : Code} {k : List Kt} {ρ : List AVal} {H : Heap} {r : AExit × List AVal × Heap} (h : RunsK S lo (.c a :: .c b :: k) ρ H r) : RunsK S lo (.c (.seq a b) :: k) ρ H r := by
 cases h with
 | c h1 h2 =>
  cases h2 with
  | c h3 h4 => exact .c (h1.seq h3) h4
  | ret h3 => exact .ret (h1.seq h3)
  | exit h3 h4 h5 => exact .exit (h1.seq h3) h4 h5
 | ret h1 => exact .ret (Runs.seq_out (by simp) h1)
 | exit h1 h2 h3 => exact .exit (Runs.seq_out (by simp) h1) h2 h3
theorem RunsK.cond {x : Operand} {a b : Code} {k : List Kt} {ρ : List AVal} {H : Heap} {r : AExit × List AVal × Heap} {t : Bool} (hx : evalA S ρ x = .bool t) (h : RunsK S lo (.c (if t then a else b) :: k) ρ H r) : RunsK S lo (.c (.cond x a b) :: k) ρ H r := by
 cases h with
 | c h1 h2 => exact .c (Runs.cond hx h1) h2
 | ret h1 => exact .ret (Runs.cond hx h1)
 | exit h1 h2 h3 => exact .exit (Runs.cond hx h1) h2 h3
theorem RunsK.block {id : Nat} {b : Code} {k : List Kt} {ρ : List AVal} {H : Heap} {r : AExit × List AVal × Heap} (h : RunsK S lo (.c b :: .blk id :: k) ρ H r) : RunsK S lo (.c (.block id b) :: k) ρ H r := by
 cases h with
 | c h1 h2 =>
  cases h2 with
  | blk h3 => exact .c (Runs.block h1) h3
 | ret h1 => exact .ret (Runs.block h1)
 | exit h1 h2 h3 =>
  rename_i k' i ρ' H'
  simp only [unwind] at h2
  by_cases hi : i = id
  ·subst hi
   have : Nat.beq i i = true := by rw [Nat.beq_eq]
   rw [this] at h2
   simp only [cond_true,Option.some.injEq] at h2
   subst h2
   have := Runs.block (id := i) h1
   simp only [if_true] at this
   exact .c this h3
  ·have hb : Nat.beq i id = false := by rw [Bool.eq_false_iff]; intro e; rw [Nat.beq_eq] at e; exact hi e
   rw [hb] at h2
   have := Runs.block (id := id) h1
   simp only [if_neg hi] at this
   exact .exit this h2 h3
theorem RunsK.loop {b : Code} {k : List Kt} {ρ : List AVal} {H : Heap} {r : AExit × List AVal × Heap} (h : RunsK S lo (.c b :: .lp b :: k) ρ H r) : RunsK S lo (.c (.loop b) :: k) ρ H r := by
 cases h with
 | c h1 h2 =>
  cases h2 with
  | lp h3 =>
   cases h3 with
   | c h4 h5 => exact .c (Runs.loop_next h1 h4) h5
   | ret h4 => exact .ret (Runs.loop_next h1 h4)
   | exit h4 h5 h6 => exact .exit (Runs.loop_next h1 h4) h5 h6
 | ret h1 => exact .ret (Runs.loop_out (by simp) h1)
 | exit h1 h2 h3 => exact .exit (Runs.loop_out (by simp) h1) h2 h3
theorem Runs.mk (n : Nat) {c : Code} {ρ : List AVal} {H : Heap} {r : AExit × List AVal × Heap} (h : stepA S (execA S n) lo c ρ H = some r) : Runs S lo c ρ H r := ⟨n + 1,h⟩
theorem RunsK.out {b : Code} {ρ : List AVal} {H : Heap} {r : AExit × List AVal × Heap} (h : RunsK S lo [.c b] ρ H r) : Runs S lo b ρ H r ∧ ∀ i,r.1 ≠ .exit i := by
 cases h with
 | c h1 h2 =>
  cases h2
  exact ⟨h1,fun i e => by cases e⟩
 | ret h1 => exact ⟨h1,fun i e => by cases e⟩
 | exit h1 h2 => simp [unwind] at h2
end
def allK : Code → List Kt → List (Nat × List Kt)
 | .region id ops draw,k => [(id,.c (.region id ops draw) :: k)]
 | .seq a b,k => allK a (.c b :: k) ++ allK b k
 | .cond _ a b,k => allK a k ++ allK b k
 | .block id b,k => allK b (.blk id :: k)
 | .loop b,k => allK b (.lp b :: k)
 | _,_ => []
def SubK (all : List (Nat × List Kt)) : List Kt → Prop
 | [] => True
 | .c x :: k => (∀ y,y ∈ allK x k → y ∈ all) ∧ SubK all k
 | .lp b :: k => (∀ y,y ∈ allK b (.lp b :: k) → y ∈ all) ∧ SubK all k
 | .blk _ :: k => SubK all k
theorem SubK.unwind {all : List (Nat × List Kt)} {i : Nat} : ∀ {k k' : List Kt},SubK all k → unwind i k = some k' → SubK all k'
 | [],_,_,h => by cases h
 | .blk id :: k,k',hs,h => by
  simp only [Go.Sy.unwind] at h
  cases hb : Nat.beq i id with
  | true => rw [hb] at h; simp only [cond_true,Option.some.injEq] at h; subst h; exact hs
  | false => rw [hb] at h; exact SubK.unwind (k := k) hs h
 | .c x :: k,k',hs,h => SubK.unwind (k := k) hs.2 h
 | .lp b :: k,k',hs,h => SubK.unwind (k := k) hs.2 h
abbrev CutX (C : Codec) := Nat → Option (SR C → SH C → Tree)
abbrev FinX (C : Codec) := AExit → SR C → SH C → Tree
abbrev SymF (C : Codec) := CutX C → Nat → List Kt → SR C → SH C → FinX C → Tree
abbrev Ctr (C : Codec) := Nat → List (SV C.T) → SH C → (SV C.T → SH C → Tree) → Tree
noncomputable def regionX (F : Cf C) (call : CallX C) (wlo : Nat) (ops : Array Oper) (draw : Bool) (r : SR C) (h : SH C) (K : SR C → SH C → Tree) : Tree :=
 bif draw then (drawX F call wlo ops r h K) else opsX F call wlo ops.toList ops.toList r h K
noncomputable def refR (r : SR C) (x : Operand) (b : Bool) : SR C := match x with
 | .tmp d => r.set d (.a (.bool b))
 | _ => r
theorem refR_ok {S : AStat} {r : SR C} {ρ : List AVal} (hR : SimR E r ρ) {x : Operand} {b : Bool} (hx : evalA S ρ x = .bool b) : SimR E (refR r x b) ρ := by
 cases x with
 | tmp d =>
  refine hR.self ?_
  have hx : ρ.getD d undefA = .bool b := hx
  rw [hx]
  exact .a _
 | const v => exact hR
 | global g => exact hR
 | func f => exact hR
noncomputable def stepX (F : Cf C) (call : CallX C) (rec : SymF C) : SymF C := fun cut wlo k r h fin =>
 match k with
 | [] => fin .normal r h
 | .blk _ :: k => rec cut wlo k r h fin
 | .lp b :: k => rec cut wlo (.c (.loop b) :: k) r h fin
 | .c code :: k =>
  match code with
  | .skip => rec cut wlo k r h fin
  | .label _ => rec cut wlo k r h fin
  | .ret => fin .ret r h
  | .exit id => match unwind id k with
   | some k' => rec cut wlo k' r h fin
   | none => .stuck "exit"
  | .seq a b => rec cut wlo (.c a :: .c b :: k) r h fin
  | .cond x a b => match sEval F.S r.get x with
   | .a (.bool true) => rec cut wlo (.c a :: k) r h fin
   | .a (.bool false) => rec cut wlo (.c b :: k) r h fin
   | .b t => .fork t (rec cut wlo (.c a :: k) (refR r x true) h fin) (rec cut wlo (.c b :: k) (refR r x false) h fin)
   | _ => .stuck "cond"
  | .block id b => rec cut wlo (.c b :: .blk id :: k) r h fin
  | .loop b => rec cut wlo (.c b :: .lp b :: k) r h fin
  | .region id ops draw => match cut id with
   | some chk => chk r h
   | none => regionX F call wlo ops draw r h fun r' h' => rec cut wlo k r' h' fin
  | _ => .stuck "code"
noncomputable def resultsX (P : Program) (r : SR C) (h : SH C) : List ResultVar → (List (SV C.T) → Tree) → Tree
 | [],K => K []
 | .tmp t :: l,K => resultsX P r h l fun vs => K (r.get t :: vs)
 | .cell a t :: l,K => loadS P t h (r.get a) fun v => resultsX P r h l fun vs => K (v :: vs)
def tupledS {T : Nat → Type} : List (SV T) → SV T
 | [v] => v
 | vs => .tup vs
noncomputable def inlineX (F : Cf C) (rec : SymF C) : CallX C := fun wlo f args h K =>
 match F.S.hook f,F.S.P.funcs[f]? with
 | none,some fn => match fn.body with
  | some body => bif Nat.ble args.length fn.ntmps && Nat.ble fn.ntmps 512 then
   match F.S.pol f with
   | .keep => rec (fun _ => none) wlo [.c body] (SR.frame args fn.ntmps) h fun _ r h' => resultsX F.S.P r h' fn.results.toList fun vs => K (tupledS vs) h'
   | .fresh => rec (fun _ => none) h.length [.c body] (SR.frame args fn.ntmps) h fun _ r h' => resultsX F.S.P r h' fn.results.toList fun vs => K (tupledS vs) h'
   | .pure => .stuck "pure"
   else .stuck "frame"
  | none => .stuck "no body"
 | _,_ => .stuck "hook"
noncomputable def callX (F : Cf C) (ctr : FuncId → Option (Ctr C)) (rec : SymF C) : CallX C := fun wlo f args h K =>
 match ctr f with
 | some c => c wlo args h K
 | none => inlineX F rec wlo f args h K
noncomputable def symx (F : Cf C) (ctr : FuncId → Option (Ctr C)) (n : Nat) : SymF C := Nat.rec (fun _ _ _ _ _ _ => .stuck "fuel") (fun _ ih => stepX F (callX F ctr ih) ih) n
def CtrOk1 (S : AStat) (f : FuncId) (c : Ctr C) : Prop := ∀ (E : Env) (lo wlo : Nat) (args : List (SV C.T)) (h : SH C) (H : Heap) (K : SV C.T → SH C → Tree) (av : List AVal),(c wlo args h K).holds → SimH E lo wlo h H → Ers E args av →
 Out E lo wlo h H (fun v H' => ∃ n,callA S (execA S n) lo f av H = some (v,H')) K
def CtrOk (S : AStat) (ctr : FuncId → Option (Ctr C)) : Prop := ∀ f c,ctr f = some c → CtrOk1 S f c
theorem regionX_ok {F : Cf C} (hC : CodecOk C) (hX : ExtNo F.S F.noExt) (hL : HookLow F.S) {call : CallX C} (hcall : CallOkX F.S call) {lo wlo : Nat} {id : Nat} {ops : Array Oper} {draw : Bool} {K : SR C → SH C → Tree} {r : SR C} {ρ : List AVal} {h : SH C} {H : Heap} (hR : SimR E r ρ) (hS : SimH E lo wlo h H)
 (hh : (regionX F call wlo ops draw r h K).holds) : Go2 E lo wlo h H (fun ρ' H' => Runs F.S lo (.region id ops draw) ρ H (.normal,ρ',H')) K := by
 unfold regionX at hh
 cases draw with
 | true =>
  simp only [cond_true] at hh
  obtain ⟨ρ',H',r',h',E',⟨n,k1⟩,k2⟩ := drawX_ok hC hX hL hcall hR hS hh
  exact ⟨ρ',H',r',h',E',Runs.mk n (by simp only [stepA,if_true,k1,Option.map_some]),k2⟩
 | false =>
  obtain ⟨ρ',H',r',h',E',⟨n,k1⟩,k2⟩ := opsX_ok hC hX hcall hR hS hh
  exact ⟨ρ',H',r',h',E',Runs.mk n (by simp only [stepA,Bool.false_eq_true,if_false,k1,Option.map_some]),k2⟩
theorem fill_sim : ∀ {as : List (SV C.T)} {av ρ : List AVal} {i : Nat} {r : SR C},Ers E as av → SimR E r ρ → i + av.length ≤ ρ.length → SimR E (SR.fill as i r) (ρ.take i ++ av ++ ρ.drop (i + av.length))
 | [],av,ρ,i,r,hA,hR,hl => by
  rw [hA.inv_nil]
  simpa [SR.fill] using hR
 | x :: as,av,ρ,i,r,hA,hR,hl => by
  obtain ⟨a,av',rfl,h1,h2⟩ := hA.inv_cons
  simp only [List.length_cons] at hl
  have := fill_sim h2 (hR.set (d := i) h1) (by rw [List.length_set]; omega) (i := i + 1)
  simp only [SR.fill]
  have e1 : (ρ.set i a).take (i + 1) = ρ.take i ++ [a] := by
   rw [List.take_set,List.take_succ_eq_append_getElem (by omega),List.set_append_right _ _ (by simp; omega)]
   simp
   rw [show i - min i ρ.length = 0 by omega]
   rfl
  have e2 : (ρ.set i a).drop (i + 1 + av'.length) = ρ.drop (i + (av'.length + 1)) := by
   rw [List.drop_set_of_lt (by omega)]
   congr 1
   omega
  rw [e1,e2] at this
  simpa using this
theorem frame_sim {as : List (SV C.T)} {av : List AVal} {n : Nat} (hA : Ers E as av) (hn : av.length ≤ n) (hs : n ≤ 512) : SimR E (SR.frame as n) (av ++ List.replicate (n - av.length) undefA) := by
 have h0 : SimR E (⟨Bt.full (.a undefA) 9,n⟩ : SR C) (List.replicate n undefA) := by
  refine ⟨full_full _ _,hs,by simp,fun j => ?_⟩
  have e1 : (SR.mk (Bt.full (.a undefA) 9) n : SR C).get j = .a undefA := by
   simp only [SR.get,get_full,Option.getD_some]
   cases Nat.blt j n <;> rfl
  have e2 : (List.replicate n undefA).getD j undefA = undefA := by
   rw [List.getD_eq_getElem?_getD,List.getElem?_replicate]
   split <;> rfl
  rw [e1,e2]
  exact .a _
 have := fill_sim hA h0 (i := 0) (by simpa using hn)
 simpa [SR.frame] using this
theorem resultsX_ok {S : AStat} {lo wlo : Nat} (hC : CodecOk C) {r : SR C} {ρ : List AVal} {h : SH C} {H : Heap} (hR : SimR E r ρ) (hS : SimH E lo wlo h H) : ∀ {l : List ResultVar} {K : List (SV C.T) → Tree},(resultsX S.P r h l K).holds → ∃ vs as,resultsA S ρ H l = some as ∧ Ers E vs as ∧ (K vs).holds
 | [],K,hh => ⟨[],[],rfl,Ers.nil,hh⟩
 | .tmp t :: l,K,hh => by
  obtain ⟨vs,as,h1,h2,h3⟩ := resultsX_ok hC hR hS (l := l) hh
  exact ⟨_,_,by simp only [resultsA,resultA,h1],h2.cons (hR.val t),h3⟩
 | .cell a t :: l,K,hh => by
  simp only [resultsX] at hh
  obtain ⟨v,sv,e1,e2,e3⟩ := loadS_ok hC hS (hR.val a) hh
  obtain ⟨vs,as,h1,h2,h3⟩ := resultsX_ok hC hR hS (l := l) e3
  exact ⟨_,_,by simp only [resultsA,resultA,e1,h1],h2.cons e2,h3⟩
theorem tupled_er {vs : List (SV C.T)} {as : List AVal} (h : Ers E vs as) : Er E (tupledS vs) (tupled as) := by
 cases vs with
 | nil => rw [h.inv_nil]; exact .tup rfl (fun i x a h => by simp at h)
 | cons v vs =>
  obtain ⟨a,as',rfl,h1,h2⟩ := h.inv_cons
  cases vs with
  | nil => rw [h2.inv_nil]; exact h1
  | cons w ws =>
   obtain ⟨b,bs,rfl,h3,h4⟩ := h2.inv_cons
   exact .tup h.1 h.2
theorem SimH.raise {lo wlo : Nat} {h : SH C} {H : Heap} (hS : SimH E lo wlo h H) : SimH E (max lo H.length) h.length h H :=
 ⟨hS.obj,hS.inj,hS.fr,hS.fresh,(fun id b hi hb => by rw [(hS.fresh id hi).1] at hb; cases hb),hS.bnd,hS.own,hS.βω,Nat.le_refl _,by have := hS.ll; omega⟩
theorem SimH.lower {lo wlo N : Nat} {h h' : SH C} {H H' : Heap} {E' : Env} (hS : SimH E lo wlo h H) (hS' : SimH E' (max lo H.length) h.length h' H') (hle : LeN h.length N E E') (hh : h.length ≤ h'.length) (hH : H.length ≤ H'.length) : SimH E' lo wlo h' H' :=
 ⟨hS'.obj,hS'.inj,hS'.fr,hS'.fresh,(fun id b hi hb => by
  rcases Nat.lt_or_ge id h.length with h1 | h1
  ·rw [(hle.old id h1).1] at hb
   exact hS.low id b hi hb
  ·have := hS'.low id b h1 hb
   omega),hS'.bnd,hS'.own,hS'.βω,by have := hS.wl; omega,by have := hS.ll; omega⟩
def SymOk (S : AStat) (n : Nat) (sx : SymF C) : Prop := ∀ (cut : CutX C) (wlo : Nat) (k : List Kt) (r : SR C) (h : SH C) (fin : FinX C) (E : Env) (lo : Nat) (ρ : List AVal) (H : Heap) (all : List (Nat × List Kt)) (Q : AExit → List AVal → Heap → Prop),
 (sx cut wlo k r h fin).holds → SimR E r ρ → SimH E lo wlo h H → SubK all k →
 (∀ x r' h' E' ρ' H',(fin x r' h').holds → SimR E' r' ρ' → SimH E' lo wlo h' H' → LeN h.length H.length E E' → h.length ≤ h'.length → H.length ≤ H'.length → Q x ρ' H') →
 (∀ id chk k' r' h' E' ρ' H',cut id = some chk → (id,k') ∈ all → SubK all k' → (chk r' h').holds → SimR E' r' ρ' → SimH E' lo wlo h' H' → LeN h.length H.length E E' → h.length ≤ h'.length → H.length ≤ H'.length → ∃ x ρ'' H'',RunsK S lo k' ρ' H' (x,ρ'',H'') ∧ Q x ρ'' H'') →
 ∃ x ρ' H',RunsK S lo k ρ H (x,ρ',H') ∧ Q x ρ' H'
theorem inlineX_ok {F : Cf C} (hC : CodecOk C) {n : Nat} {sx : SymF C} (hsx : SymOk F.S n sx) : CallOkX F.S (inlineX F sx) := by
 intro E lo wlo f args h H K av hh hS hA
 unfold inlineX at hh
 split at hh
 case h_2 => exact (stuck_no hh).elim
 rename_i fn hk hf
 split at hh
 case h_2 => exact (stuck_no hh).elim
 rename_i body hb
 cases hfr : (Nat.ble args.length fn.ntmps && Nat.ble fn.ntmps 512) with
 | false => rw [hfr] at hh; exact (stuck_no hh).elim
 | true =>
  rw [hfr] at hh
  simp only [cond_true] at hh
  rw [Bool.and_eq_true,Nat.ble_eq,Nat.ble_eq] at hfr
  have hR := frame_sim hA (n := fn.ntmps) (by rw [← hA.1]; exact hfr.1) hfr.2
  have main : ∀ (lo' wlo' : Nat),SimH E lo' wlo' h H → (F.S.pol f).lo lo H = lo' → (∀ v H',finish (F.S.pol f) H v H' = some (v,H')) → (∀ (E' : Env) (h' : SH C) (H' : Heap),SimH E' lo' wlo' h' H' → LeN h.length H.length E E' → h.length ≤ h'.length → H.length ≤ H'.length → SimH E' lo wlo h' H') →
   (sx (fun _ => none) wlo' [.c body] (SR.frame args fn.ntmps) h fun _ r h' => resultsX F.S.P r h' fn.results.toList fun vs => K (tupledS vs) h').holds → Out E lo wlo h H (fun v H' => ∃ n,callA F.S (execA F.S n) lo f av H = some (v,H')) K := by
   intro lo' wlo' hS1 hlo hfin hback hx
   obtain ⟨x,ρ',H',hrun,r',h',E',k1,k2,k3,k4,k5,k6⟩ := hsx _ _ _ _ _ _ _ lo' _ _ (allK body []) (fun _ ρ' H' => ∃ r' h' E',(resultsX F.S.P r' h' fn.results.toList fun vs => K (tupledS vs) h').holds ∧ SimR E' r' ρ' ∧ SimH E' lo' wlo' h' H' ∧ LeN h.length H.length E E' ∧ h.length ≤ h'.length ∧ H.length ≤ H'.length) hx hR hS1
    ⟨fun y hy => hy,trivial⟩ (fun x r' h' E' ρ' H' q1 q2 q3 q4 q5 q6 => ⟨r',h',E',q1,q2,q3,q4,q5,q6⟩) (fun id chk k' r' h' E' ρ' H' q => by cases q)
   obtain ⟨hrun,hne⟩ := hrun.out
   obtain ⟨vs,as,e1,e2,e3⟩ := resultsX_ok (S := F.S) hC k2 k3 k1
   obtain ⟨m,hm⟩ := hrun
   refine ⟨tupled as,H',tupledS vs,h',E',⟨m, ?_⟩,k4,k5,hback _ _ _ k3 k4 k5 k6,k6,tupled_er e2,e3⟩
   simp only [callA,hk,hf,hb,hlo]
   rw [hm]
   cases x with
   | exit i => exact (hne i rfl).elim
   | normal => simp only [e1]; exact hfin _ _
   | ret => simp only [e1]; exact hfin _ _
  split at hh
  ·rename_i hp
   exact main lo wlo hS (by rw [hp]; rfl) (by rw [hp]; exact fun _ _ => rfl) (fun _ _ _ h _ _ _ => h) hh
  ·rename_i hp
   exact main (max lo H.length) h.length hS.raise (by rw [hp]; rfl) (by rw [hp]; exact fun _ _ => rfl) (fun E' h' H' h1 h2 h3 h4 => hS.lower h1 h2 h3 h4) hh
  ·exact (stuck_no hh).elim
theorem callX_ok {F : Cf C} (hC : CodecOk C) {ctr : FuncId → Option (Ctr C)} (hctr : CtrOk F.S ctr) {n : Nat} {sx : SymF C} (hsx : SymOk F.S n sx) : CallOkX F.S (callX F ctr sx) := by
 intro E lo wlo f args h H K av hh hS hA
 unfold callX at hh
 split at hh
 ·rename_i c hc
  exact hctr f c hc E lo wlo args h H K av hh hS hA
 ·exact inlineX_ok hC hsx E lo wlo f args h H K av hh hS hA
theorem symx_ok {F : Cf C} (hC : CodecOk C) (hX : ExtNo F.S F.noExt) (hL : HookLow F.S) {ctr : FuncId → Option (Ctr C)} (hctr : CtrOk F.S ctr) : ∀ n,SymOk F.S n (symx F ctr n)
 | 0 => fun _ _ _ _ _ _ _ _ _ _ _ _ hh => (stuck_no hh).elim
 | n + 1 => by
  have ih := symx_ok hC hX hL hctr n
  have hcall := callX_ok hC hctr ih
  intro cut wlo k r h fin E lo ρ H all Q hh hR hS hK hfin hcut
  replace hh : (stepX F (callX F ctr (symx F ctr n)) (symx F ctr n) cut wlo k r h fin).holds := hh
  -- the same state, another stack
  have go : ∀ {k' : List Kt},(symx F ctr n cut wlo k' r h fin).holds → SubK all k' → ∃ x ρ' H',RunsK F.S lo k' ρ H (x,ρ',H') ∧ Q x ρ' H' := fun h1 h2 => ih _ _ _ _ _ _ _ _ _ _ _ _ h1 hR hS h2 hfin hcut
  have nil := hfin .normal r h E ρ H
  unfold stepX at hh
  split at hh
  ·exact ⟨_,_,_,.nil,hfin _ _ _ E _ _ hh hR hS (LeN.refl _ _) (Nat.le_refl _) (Nat.le_refl _)⟩
  ·obtain ⟨x,ρ',H',h1,h2⟩ := go hh hK
   exact ⟨x,ρ',H',.blk h1,h2⟩
  ·rename_i b k'
   obtain ⟨x,ρ',H',h1,h2⟩ := go hh ⟨fun y hy => hK.1 y hy,hK.2⟩
   exact ⟨x,ρ',H',.lp h1,h2⟩
  ·rename_i code k'
   split at hh
   ·obtain ⟨x,ρ',H',h1,h2⟩ := go hh hK.2
    exact ⟨x,ρ',H',.c (Runs.mk 0 rfl) h1,h2⟩
   ·obtain ⟨x,ρ',H',h1,h2⟩ := go hh hK.2
    exact ⟨x,ρ',H',.c (Runs.mk 0 rfl) h1,h2⟩
   ·exact ⟨_,_,_,.ret (Runs.mk 0 rfl),hfin _ _ _ E _ _ hh hR hS (LeN.refl _ _) (Nat.le_refl _) (Nat.le_refl _)⟩
   ·rename_i id
    split at hh
    ·rename_i k2 hu
     obtain ⟨x,ρ',H',h1,h2⟩ := go hh (hK.2.unwind hu)
     exact ⟨x,ρ',H',.exit (Runs.mk 0 rfl) hu h1,h2⟩
    ·exact (stuck_no hh).elim
   ·rename_i a b
    obtain ⟨x,ρ',H',h1,h2⟩ := go hh ⟨fun y hy => hK.1 y (by simp only [allK,List.mem_append]; exact .inl hy),fun y hy => hK.1 y (by simp only [allK,List.mem_append]; exact .inr hy),hK.2⟩
    exact ⟨x,ρ',H',h1.seq,h2⟩
   ·rename_i x a b
    have hx := hR.ev (S := F.S) x
    have ka : SubK all (.c a :: k') := ⟨fun y hy => hK.1 y (by simp only [allK,List.mem_append]; exact .inl hy),hK.2⟩
    have kb : SubK all (.c b :: k') := ⟨fun y hy => hK.1 y (by simp only [allK,List.mem_append]; exact .inr hy),hK.2⟩
    split at hh
    ·rename_i e
     rw [e] at hx
     generalize hv : evalA F.S ρ x = v at hx
     cases hx
     obtain ⟨x,ρ',H',h1,h2⟩ := go hh ka
     exact ⟨x,ρ',H',RunsK.cond hv h1,h2⟩
    ·rename_i e
     rw [e] at hx
     generalize hv : evalA F.S ρ x = v at hx
     cases hx
     obtain ⟨x,ρ',H',h1,h2⟩ := go hh kb
     exact ⟨x,ρ',H',RunsK.cond hv h1,h2⟩
    ·rename_i t e
     rw [e] at hx
     generalize hv : evalA F.S ρ x = v at hx
     cases hx
     rcases fork_cases hh with ⟨rfl,h3⟩ | ⟨rfl,h3⟩
     ·obtain ⟨x,ρ',H',h1,h2⟩ := ih _ _ _ _ _ _ _ _ _ _ _ _ h3 (refR_ok hR hv) hS ka hfin hcut
      exact ⟨x,ρ',H',RunsK.cond hv h1,h2⟩
     ·obtain ⟨x,ρ',H',h1,h2⟩ := ih _ _ _ _ _ _ _ _ _ _ _ _ h3 (refR_ok hR hv) hS kb hfin hcut
      exact ⟨x,ρ',H',RunsK.cond hv h1,h2⟩
    ·exact (stuck_no hh).elim
   ·rename_i id b
    obtain ⟨x,ρ',H',h1,h2⟩ := go hh ⟨fun y hy => hK.1 y hy,hK.2⟩
    exact ⟨x,ρ',H',h1.block,h2⟩
   ·rename_i b
    obtain ⟨x,ρ',H',h1,h2⟩ := go hh ⟨fun y hy => hK.1 y hy,fun y hy => hK.1 y hy,hK.2⟩
    exact ⟨x,ρ',H',h1.loop,h2⟩
   ·rename_i id ops draw
    split at hh
    ·rename_i chk hc
     exact hcut id chk _ r h E ρ H hc (hK.1 _ (by simp [allK])) hK hh hR hS (LeN.refl _ _) (Nat.le_refl _) (Nat.le_refl _)
    ·obtain ⟨ρ1,H1,r1,h1,E1,k1,k2,k3,k4,k5,k6,k7⟩ := regionX_ok (id := id) hC hX hL hcall hR hS hh
     obtain ⟨x,ρ',H',q1,q2⟩ := ih _ _ _ _ _ _ _ _ _ _ all Q k7 k4 k5 hK.2
      (fun x r' h' E' ρ' H' p1 p2 p3 p4 p5 p6 => hfin x r' h' E' ρ' H' p1 p2 p3 (k2.trans k3 k6 p4) (by omega) (by omega))
      (fun id chk k' r' h' E' ρ' H' p0 p00 p000 p1 p2 p3 p4 p5 p6 => hcut id chk k' r' h' E' ρ' H' p0 p00 p000 p1 p2 p3 (k2.trans k3 k6 p4) (by omega) (by omega))
     exact ⟨x,ρ',H',.c k1 q1,q2⟩
   ·exact (stuck_no hh).elim
end Go.Sy

/- One symbolic state is a case of another one: numbers of objects may differ. Generic: over any program. -/
namespace Go.Sy
open Go.Am
set_option linter.unusedVariables false
set_option linter.unusedSimpArgs false
variable {C : Codec} {E : Env}
abbrev Ren := List (Option Nat)
def nodupI : List Int → Bool
 | [] => true
 | n :: l => (l.all fun m => !(n == m)) && nodupI l
theorem nodupI_ok : ∀ {l : List Int},nodupI l = true → l.Nodup
 | [],_ => List.nodup_nil
 | n :: l,h => by
  simp only [nodupI,Bool.and_eq_true,List.all_eq_true,Bool.not_eq_true',beq_eq_false_iff_ne] at h
  exact List.nodup_cons.2 ⟨fun hm => h.1 n hm rfl,nodupI_ok h.2⟩
noncomputable def Env.via (E : Env) (τ : Ren) (Sl : Nat → List AVal → Prop) : Env where
 β := fun j => ((τ[j]?).join).bind E.β
 γ := fun j => ((τ[j]?).join).bind E.γ
 ω := fun b => open Classical in if h : ∃ j,((τ[j]?).join).bind E.β = some b then some (Classical.choose h) else none
 Fr := fun b cs => E.Fr b cs ∨ Sl b cs
def mpZip (es es0 : List (Int × SV C.T)) : List (SV C.T × SV C.T) := es0.map fun q => (match es.find? fun p => p.1 == q.1 with
 | some p => p.2
 | none => .a .nils,q.2)
def mpKeys (es es0 : List (Int × SV C.T)) : Bool := (es.all fun p => es0.any fun q => q.1 == p.1) && nodupI (es0.map (·.1))
def mpNums (es0 : List (Int × SV C.T)) : Bool := match es0 with
 | [] => false
 | _ => es0.all fun p => (intOf p.2).isSome
def mpPos (es es0 : List (Int × SV C.T)) : Bool := mpNums es0 && Nat.beq es.length es0.length
def mpNeed : List (Int × SV C.T) → List (Int × SV C.T) → Tree → Tree
 | (n,_) :: es,(m,_) :: es0,t => .need (n = m) (mpNeed es es0 t)
 | [],[],t => t
 | _,_,_ => .stuck "a map of another length"
def bindX (fh : List (Obj C.T)) (h : SH C) (τ : Ren) (j id : Nat) (K : Ren → List (SV C.T × SV C.T) → Tree) : Tree :=
 match τ[j]? with
 | some (some id') => bif Nat.beq id' id then K τ [] else .stuck "two objects for one"
 | some none =>
  bif τ.contains (some id) then .stuck "one object for two" else
  match hget h id,fh[j]? with
  | some (.cells cs),some (.cells cs0) => bif Nat.beq cs.length cs0.length then K (τ.set j (some id)) (cs.zip cs0) else .stuck "cells of another number"
  | some (.mp es),some (.mp es0) => bif mpPos es es0 then mpNeed es es0 (K (τ.set j (some id)) ((es.map (·.2)).zip (es0.map (·.2)))) else
   bif mpKeys es es0 then K (τ.set j (some id)) (mpZip es es0) else .stuck "a map of other numbers"
  | some (.rows n l full _),some (.rows m l0 full0 root0) => if e : n = m then bif Nat.beq root0 j && (!full0 || full) then .need (castL e l = l0) (K (τ.set j (some id)) []) else .stuck "rows: room" else .stuck "rows of another kind"
  | _,_ => .stuck "an object of another kind"
 | none => .stuck "no such object"
def leW (fh : List (Obj C.T)) : Nat → List (SV C.T × SV C.T) → SH C → Ren → (Ren → SH C → Tree) → Tree
 | 0,_,_,_,_ => .stuck "le: fuel"
 | n + 1,[],h,τ,K => K τ h
 | n + 1,(x,v0) :: W,h,τ,K =>
  match v0 with
  | .any => leW fh n W h τ K
  | .a v => match litV x with
   | some v' => .need (v' = v) (leW fh n W h τ K)
   | none => match v with
    | .int k m => match intOf x with
     | some (k',m') => if k' = k then .need (m' = m) (leW fh n W h τ K) else .stuck "le: a"
     | none => .stuck "le: a"
    | .str s => match strOf x with
     | some s' => .need (s' = s) (leW fh n W h τ K)
     | none => .stuck "le: a"
    | _ => .stuck "le: a"
  | .i k m => match intOf x with
   | some (k',m') => if k' = k then .need (m' = m) (leW fh n W h τ K) else .stuck "le: kind"
   | none => .stuck "le: i"
  | .b t => match boolOf x with
   | some t' => .need (t' = t) (leW fh n W h τ K)
   | none => .stuck "le: b"
  | .s t => match strOf x with
   | some t' => .need (t' = t) (leW fh n W h τ K)
   | none => .stuck "le: s"
  | .agg cs0 => match x with
   | .agg cs => bif Nat.beq cs.length cs0.length then leW fh n (cs.zip cs0 ++ W) h τ K else .stuck "le: agg"
   | .a (.agg as) => bif Nat.beq as.length cs0.length then leW fh n ((as.map .a).zip cs0 ++ W) h τ K else .stuck "le: agg"
   | _ => .stuck "le: agg"
  | .tup cs0 => match x with
   | .tup cs => bif Nat.beq cs.length cs0.length then leW fh n (cs.zip cs0 ++ W) h τ K else .stuck "le: tup"
   | .a (.tup as) => bif Nat.beq as.length cs0.length then leW fh n ((as.map .a).zip cs0 ++ W) h τ K else .stuck "le: tup"
   | _ => .stuck "le: tup"
  | .iface t v => match x with
   | .iface t' x' => if t' = t then leW fh n ((x',v) :: W) h τ K else .stuck "le: iface"
   | .a (.iface t' a') => if t' = t then leW fh n ((.a a',v) :: W) h τ K else .stuck "le: iface"
   | _ => .stuck "le: iface"
  | .fp cs0 => match x with
   | .fp cs => bif Nat.beq cs.length cs0.length then leW fh n (cs.zip cs0 ++ W) h τ K else .stuck "le: fp"
   | .a (.ipt as) => bif Nat.beq as.length cs0.length then leW fh n ((as.map .a).zip cs0 ++ W) h τ K else .stuck "le: fp"
   | _ => .stuck "le: fp"
  | .tl m l => match x with
   | .tl m' l' => if e : m' = m then .need (castL e l' = l) (leW fh n W h τ K) else .stuck "le: tl"
   | .a .nils => .need ([] = l) (leW fh n W h τ K)
   | .sl sz id off len cap ex => match hget h id with
    | some (.cells cs) => if sz = C.sz m ∧ len ≤ cap ∧ off + len * sz ≤ cs.length ∧ !τ.contains (some id) then
     match decAll m (chunkS sz len (cs.drop off)) with
     | some xs => .need (xs = l) (leW fh n W (h.set id none) τ K)
     | none => .stuck "le: a row"
     else .stuck "le: tl sl"
    | _ => .stuck "le: tl sl"
   | _ => .stuck "le: tl"
  | .fn f as bs => match x with
   | .fn f' as' bs' => if f' = f then bif Nat.beq as'.length as.length && Nat.beq bs'.length bs.length then leW fh n (as'.zip as ++ (bs'.zip bs ++ W)) h τ K else .stuck "le: fn" else .stuck "le: fn"
   | _ => .stuck "le: fn"
  | .ptr j off => match x with
   | .ptr id off' => bif Nat.beq off' off then bindX fh h τ j id fun τ' W' => leW fh n (W' ++ W) h τ' K else .stuck "le: ptr"
   | _ => .stuck "le: ptr"
  | .sl sz j off len cap ex => match x with
   | .sl sz' id off' len' cap' ex' => bif Nat.beq sz' sz && Nat.beq off' off && Nat.beq len' len && Nat.beq cap' cap && (ex' == ex) then bindX fh h τ j id fun τ' W' => leW fh n (W' ++ W) h τ' K else .stuck "le: sl"
   | _ => .stuck "le: sl"
  | .ep j i off => match x with
   | .ep id i' off' => bif Nat.beq off' off then .need (i' = i) (bindX fh h τ j id fun τ' W' => leW fh n (W' ++ W) h τ' K) else .stuck "le: ep"
   | _ => .stuck "le: ep"
  | .R j => match x with
   | .R id => bindX fh h τ j id fun τ' W' => leW fh n (W' ++ W) h τ' K
   | .a .nils => match fh[j]? with
    | some (.rows m l0 full0 root0) => bindX fh (h ++ [some (.rows m [] true h.length)]) τ j h.length fun τ' W' => leW fh n (W' ++ W) (h ++ [some (.rows m [] true h.length)]) τ' K
    | _ => .stuck "le: R"
   | .sl sz id off len cap ex => match fh[j]?,hget h id with
    | some (.rows m l0 full0 root0),some (.cells cs) =>
     if sz = C.sz m ∧ sz ≠ 0 ∧ len ≤ cap ∧ off + cap * sz ≤ cs.length ∧ (ex = true ∨ off + cap * sz = cs.length) ∧ !τ.contains (some id) then
      match decAll m (chunkS sz len (cs.drop off)) with
      | some xs => bindX fh (h.set id none ++ [some (.rows m xs (ex || Nat.beq cap len) id)]) τ j h.length fun τ' W' => leW fh n (W' ++ W) (h.set id none ++ [some (.rows m xs (ex || Nat.beq cap len) id)]) τ' K
      | none => .stuck "le: a row"
     else .stuck "le: R sl"
    | _,_ => .stuck "le: R sl"
   | _ => .stuck "le: R"
  | .mapr j => match x with
   | .mapr id => bindX fh h τ j id fun τ' W' => leW fh n (W' ++ W) h τ' K
   | _ => .stuck "le: mapr"
def RenOk (τ : Ren) : Prop := ∀ (j j' id : Nat),τ[j]? = some (some id) → τ[j']? = some (some id) → j = j'
def RenLe (τ τ' : Ren) : Prop := τ'.length = τ.length ∧ ∀ (j id : Nat),τ[j]? = some (some id) → τ'[j]? = some (some id)
theorem RenLe.refl (τ : Ren) : RenLe τ τ := ⟨rfl,fun _ _ h => h⟩
theorem RenLe.trans {a b c : Ren} (h : RenLe a b) (k : RenLe b c) : RenLe a c := ⟨k.1.trans h.1,fun j id x => k.2 j id (h.2 j id x)⟩
theorem via_β {τ : Ren} {Sl : Nat → List AVal → Prop} {j id : Nat} (h : τ[j]? = some (some id)) : (E.via τ Sl).β j = E.β id := by simp [Env.via,h]
theorem via_γ {τ : Ren} {Sl : Nat → List AVal → Prop} {j id : Nat} (h : τ[j]? = some (some id)) : (E.via τ Sl).γ j = E.γ id := by simp [Env.via,h]
theorem noId_er (hC : CodecOk C) {E E' : Env} (hF : ∀ b cs,E.Fr b cs → E'.Fr b cs) {x : SV C.T} {a : AVal} (h : Er E x a) : noId x = true → Er E' x a := by
 have mem : ∀ {n : Nat} {y : C.T n} {j : Nat} {z : SV C.T},(C.enc n y)[j]? = some z → noId z = true := fun {n y j z} hz => List.all_eq_true.1 (hC.ids n y) z (List.mem_of_getElem? hz)
 induction h with
 | a v => exact fun _ => .a v
 | i k n => exact fun _ => .i k n
 | b x => exact fun _ => .b x
 | s x => exact fun _ => .s x
 | tlN => exact fun _ => .tlN
 | tlL hz hl hs _ ih => exact fun _ => .tlL hz hl hs fun i y r j x a h1 h2 h3 h4 => ih i y r j x a h1 h2 h3 h4 (mem h3)
 | tlS hz hl hf ho hc _ ih => exact fun _ => .tlS hz hl (hF _ _ hf) ho hc fun i y j x a h1 h2 h3 => ih i y j x a h1 h2 h3 (mem h2)
 | _ => intro h; cases h
def Good (E : Env) (τ : Ren) (Sl : Nat → List AVal → Prop) (p : SV C.T × SV C.T) : Prop := ∀ a,Er E p.1 a → Er (E.via τ Sl) p.2 a
theorem good_zip {τ : Ren} {Sl : Nat → List AVal → Prop} {cs cs0 : List (SV C.T)} (hl : cs.length = cs0.length) (h : ∀ p,p ∈ cs.zip cs0 → Good E τ Sl p) {as : List AVal} (hE : Ers E cs as) : Ers (E.via τ Sl) cs0 as := by
 refine ⟨by rw [← hl]; exact hE.1,fun i x0 a h1 h2 => ?_⟩
 have hi : i < cs.length := by rw [hl]; exact lt_of_some h1
 have hx : cs[i]? = some cs[i] := List.getElem?_eq_getElem hi
 have hz : (cs.zip cs0)[i]? = some (cs[i],x0) := by rw [List.getElem?_zip_eq_some]; exact ⟨hx,h1⟩
 exact h _ (List.mem_of_getElem? hz) a (hE.2 i _ a hx h2)
def ObjGood (E : Env) (h : SH C) (fh : List (Obj C.T)) (τ : Ren) (Sl : Nat → List AVal → Prop) (j id : Nat) : Prop :=
 (∃ es es0,h[id]? = some (some (.mp es)) ∧ fh[j]? = some (.mp es0) ∧ ((mpKeys es es0 = true ∧ ∀ p,p ∈ mpZip es es0 → Good E τ Sl p) ∨ (es.map (·.1) = es0.map (·.1) ∧ ∀ p,p ∈ (es.map (·.2)).zip (es0.map (·.2)) → Good E τ Sl p))) ∨
 (∃ cs cs0,h[id]? = some (some (.cells cs)) ∧ fh[j]? = some (.cells cs0) ∧ cs.length = cs0.length ∧ ∀ p,p ∈ cs.zip cs0 → Good E τ Sl p) ∨
 (∃ n l full full0 root,h[id]? = some (some (.rows n l full root)) ∧ fh[j]? = some (.rows n l full0 j) ∧ (full0 = true → full = true))
end Go.Sy

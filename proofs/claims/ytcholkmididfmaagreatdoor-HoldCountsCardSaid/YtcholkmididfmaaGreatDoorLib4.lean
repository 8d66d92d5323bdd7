/- Library, part 4: SyDraw, SyDraw2, SyDraw3, SyCode, SyLe, SyLe2, SyFn, SyCtr, SyTop, SySeal, SyNil. General texts of the author of this claim: an idealised machine and a symbolic one, both proved sound over the model. -/
import Derived.Test.YtcholkmididfmaaGreatDoorLib3
set_option linter.unusedVariables false
set_option linter.unusedSimpArgs false
/- Operations whose order is open, over symbolic values. Generic: over any program. -/
namespace Go.Sy
open Go.Am
set_option linter.unusedVariables false
set_option linter.unusedSimpArgs false
variable {C : Codec} {E : Env}
inductive RK where
 | own (root : Nat)
 | nm (id : Nat)
 | fr
def RkOk (E : Env) (b : Nat) : RK → Prop
 | .own r => E.ω b = some r
 | .nm id => E.ω b = some id ∧ E.β id = some b
 | .fr => ∃ cs,E.Fr b cs
theorem RkOk.mono {E E' : Env} (k : E.le E') {b : Nat} : ∀ {q : RK},RkOk E b q → RkOk E' b q
 | .own _,h => k.ω _ _ h
 | .nm _,h => ⟨k.ω _ _ h.1,k.β _ _ h.2⟩
 | .fr,⟨cs,h⟩ => ⟨cs,k.Fr _ _ h⟩
def readX (h : SH C) (ev : Operand → SV C.T) : Op → Option RK
 | .load _ x => match ev x with
  | .ptr id _ => some (.nm id)
  | .ep id _ _ => match hget h id with
   | some (.rows _ _ _ root) => some (.own root)
   | _ => some .fr
  | .fp _ => some .fr
  | _ => none
 | .lookup _ m _ _ => match ev m with
  | .mapr id => some (.own id)
  | _ => none
 | .slice _ x _ _ _ => match ev x with
  | .ptr id _ => some (.own id)
  | _ => none
 | .convert _ _ x => match ev x with
  | .sl _ id _ _ _ _ => some (.own id)
  | .R id => match hget h id with
   | some (.rows _ _ _ root) => some (.own root)
   | _ => none
  | _ => none
 | _ => none
def touchX (S : AStat) (h : SH C) (ev : Operand → SV C.T) : Op → Option (List Nat × Bool)
 | .store _ x _ => match ev x with
  | .ptr id _ => some ([id],false)
  | .ep id _ _ => match hget h id with
   | some (.rows _ _ _ root) => some ([root],false)
   | _ => none
  | _ => none
 | .mapUpdate _ m _ _ => match ev m with
  | .mapr id => some ([id],false)
  | _ => none
 | .call c => match c.callee with
  | .builtin .append => match c.args[0]? with
   | some x => match ev x with
    | .a .nils => some ([],false)
    | .sl _ id _ _ _ _ => some ([id],false)
    | .R id => match hget h id with
     | some (.rows _ _ _ root) => some ([root],true)
     | _ => none
    | _ => none
   | none => none
  | .value f => match ev f with
   | .a (.fn (.func g) _ _) => if stillB S g then some ([],false) else none
   | .fn (.func g) _ _ => if stillB S g then some ([],false) else none
   | _ => none
  | _ => none
 | _ => none
inductive TK where
 | tch (ids : List Nat) (other : Bool)
 | kept (K : List Nat) (N : List (Nat × Prop))
abbrev RdS := List (Nat × RK)
abbrev TcS := List (Nat × TK)
def samePS {T : Nat → Type} : List (SV T) → List (SV T) → Bool
 | [],[] => true
 | .ptr i o :: cs,.ptr i' o' :: ds => Nat.beq i i' && Nat.beq o o' && samePS cs ds
 | _,_ => false
def keptB {T : Nat → Type} : Option (Obj T) → Option (Obj T) → Bool
 | some (.cells cs),some (.cells ds) => samePS cs ds
 | _,_ => false
def keptL (h h' : SH C) : Nat → List Nat
 | 0 => []
 | j + 1 => bif keptB (hget h j) (hget h' j) then j :: keptL h h' j else keptL h h' j
def sameNS {T : Nat → Type} : List (SV T) → List (SV T) → Option Prop
 | [],[] => some True
 | x :: cs,y :: ds => match x,y with
  | .ptr i o,.ptr i' o' => bif Nat.beq i i' && Nat.beq o o' then sameNS cs ds else none
  | _,_ => match intOf x,intOf y with
   | some (k,n),some (k',n') => if k = k' then (sameNS cs ds).map fun p => n = n' ∧ p else none
   | _,_ => none
 | _,_ => none
def keptNB {T : Nat → Type} : Option (Obj T) → Option (Obj T) → Option Prop
 | some (.cells cs),some (.cells ds) => sameNS cs ds
 | _,_ => none
def keptN (h h' : SH C) : Nat → List (Nat × Prop)
 | 0 => []
 | j + 1 => match keptNB (hget h j) (hget h' j) with
  | some p => (j,p) :: keptN h h' j
  | none => keptN h h' j
def tk0 : Option (List Nat × Bool) → TK
 | some (ids,o) => .tch ids o
 | none => .kept [] []
def tkX (S : AStat) (h h' : SH C) (ev : Operand → SV C.T) (op : Op) : TK := match touchX S h ev op with
 | some (ids,o) => .tch ids o
 | none => match op with
  | .call c => (match c.callee with
   | .value _ => .kept (keptL h h' h.length) (keptN h h' h.length)
   | _ => .kept [] [])
  | _ => .kept [] []
def pairS (B : List Nat) (r : Nat × RK) (t : Nat × TK) : Bool := (B.getD r.1 0).testBit t.1 || (B.getD t.1 0).testBit r.1 ||
 match t.2 with
 | .tch l other => (match r.2 with
  | .own root => !l.contains root
  | .nm id => !l.contains id
  | .fr => !other)
 | .kept K _ => (match r.2 with
  | .nm id => K.contains id
  | _ => false)
def apartS (B : List Nat) (reads : RdS) (touches : TcS) : Bool :=
 reads.all fun r => touches.all fun t => pairS B r t
def needS (r : Nat × RK) (t : Nat × TK) : Option Prop := match t.2,r.2 with
 | .kept _ N,.nm id => (N.find? fun x => Nat.beq x.1 id).map (·.2)
 | _,_ => none
def pairsS (reads : RdS) (touches : TcS) : List ((Nat × RK) × (Nat × TK)) := reads.flatMap fun r => touches.map fun t => (r,t)
def apartN (B : List Nat) (K : Tree) : List ((Nat × RK) × (Nat × TK)) → Tree
 | [] => K
 | (r,t) :: l => bif pairS B r t then apartN B K l else match needS r t with
  | some p => .need p (apartN B K l)
  | none => .stuck "an order that could be seen"
def noHid (ops : Array Oper) (B : List Nat) (k : Nat) : Bool :=
 (List.range ops.size).all fun j => match ops[j]? with
  | some o => !isNewB o.op || (Nat.blt j k && (B.getD k 0).testBit j)
  | none => true
def noHid2 (ops : Array Oper) (B : List Nat) (k : Nat) : Bool :=
 (List.range ops.size).all fun j => match ops[j]? with
  | some o => !isNewB o.op || Nat.ble k j || (B.getD k 0).testBit j
  | none => true
def bltB : Op → Bool
 | .store _ _ _ => true
 | .call c => match c.callee with
  | .builtin .append => true
  | _ => false
 | _ => false
def hidIds (B : List Nat) (k : Nat) (news : List (Nat × Nat)) : List Nat := (news.filter fun x => !(B.getD k 0).testBit x.1).map (·.2)
def hideS (h : SH C) : List Nat → SH C
 | [] => h
 | id :: ids => hideS (h.set id none) ids
def unhideS (h0 h : SH C) : List Nat → SH C
 | [] => h
 | id :: ids => unhideS h0 (h.set id (h0.getD id none)) ids
def freshOp (S : AStat) (ev : Operand → SV C.T) : Op → Bool
 | .call c => match c.callee with
  | .value f => match ev f with
   | .a (.fn (.func g) _ _) => (S.hook g).isNone && (S.pol g == .pure || S.pol g == .fresh)
   | .fn (.func g) _ _ => (S.hook g).isNone && (S.pol g == .pure || S.pol g == .fresh)
   | _ => false
  | _ => false
 | _ => false
noncomputable def drawGoX (F : Cf C) (call : CallX C) (wlo : Nat) (ops : Array Oper) (B : List Nat) : List Oper → Nat → SR C → SH C → List (Nat × Nat) → RdS → TcS → (SR C → SH C → Tree) → Tree
 | [],_,r,h,_,rd,tc,K => bif apartS B rd tc then K r h else apartN B (K r h) (pairsS rd tc)
 | o :: rest,k,r,h,news,rd,tc,K => guardX ops.toList r o
  (fun r =>
   bif isNewB o.op then newX F.S (sEval F.S r.get) o.op fun ob mk => drawGoX F call wlo ops B rest (k + 1) (sPut r o.dst (mk h.length)) (h ++ [some (ob h.length)]) ((k,h.length) :: news) rd tc K
   else bif isEffB o.op then
    bif noHid ops B k || (bltB o.op && noHid2 ops B k) then effX F.S F.noExt call wlo (sEval F.S r.get) h o.op fun v h' => drawGoX F call wlo ops B rest (k + 1) (sPut r o.dst v) h' news rd ((k,tkX F.S h h' (sEval F.S r.get) o.op) :: tc) K
    else bif freshOp F.S (sEval F.S r.get) o.op && ((hidIds B k news).all fun id => (hget h id).isSome) then
     effX F.S F.noExt call wlo (sEval F.S r.get) (hideS h (hidIds B k news)) o.op fun v h' => drawGoX F call wlo ops B rest (k + 1) (sPut r o.dst v) (unhideS h h' (hidIds B k news)) news rd ((k,tk0 (touchX F.S h (sEval F.S r.get) o.op)) :: tc) K
    else .stuck "a new block beside what turns memory"
   else quietX F.S wlo (sEval F.S r.get) h o.op fun v h' => drawGoX F call wlo ops B rest (k + 1) (sPut r o.dst v) h' news
    (match readX h (sEval F.S r.get) o.op with
     | some q => (k,q) :: rd
     | none => rd) tc K)
  (fun r => drawGoX F call wlo ops B rest (k + 1) (sPut r o.dst (.a undefA)) h news rd tc K)
noncomputable def drawX (F : Cf C) (call : CallX C) (wlo : Nat) (ops : Array Oper) (r : SR C) (h : SH C) (K : SR C → SH C → Tree) : Tree :=
 bif regionOk ops (befs ops.toList []) then drawGoX F call wlo ops (befs ops.toList []) ops.toList 0 r h [] [] [] K
 else .stuck "an order that could be seen"
theorem readX_ok {S : AStat} {lo wlo : Nat} {ρ : List AVal} {ev : Operand → SV C.T} (hev : ∀ x,Er E (ev x) (evalA S ρ x)) {h : SH C} {H : Heap} (hS : SimH E lo wlo h H) {op : Op} {K : SV C.T → SH C → Tree} (hh : (quietX S wlo ev h op K).holds) {b : Nat} (hb : readsA S ρ op = some b) :
 ∃ q,readX h ev op = some q ∧ RkOk E b q := by
 unfold readsA at hb
 split at hb
 ·rename_i t x
  have hx := hev x
  simp only [quietX,loadS] at hh
  simp only [readX]
  generalize evalA S ρ x = a at hx hb
  generalize ev x = sv at hx hh
  split at hh
  ·rename_i id off
   split at hh
   ·rename_i cs ho
    cases hx with
    | ptr hβ =>
     simp only [blkOf,qa] at hb
     subst hb
     obtain ⟨b',as,g1,gw,_⟩ := hS.obj id _ (hget_some ho)
     rw [hβ] at g1
     simp only [qa] at g1
     subst g1
     exact ⟨_,rfl,gw,hβ⟩
   ·exact qa1 hh
  ·rename_i id i off
   split at hh
   ·rename_i n l full root ho
    cases hx with
    | ep hg =>
     simp only [blkOf,qa] at hb
     subst hb
     rcases hS.obj id _ (hget_some ho) with ⟨rfl,_⟩ | ⟨b',off',cap',ex',as,g1,g2,gw,_⟩
     ·have := hh.1
      simp at this
      omega
     ·rw [hg] at g1
      simp only [qa,AVal.sl.injEq] at g1
      obtain ⟨rfl,rfl,rfl,rfl,rfl,rfl⟩ := g1
      exact ⟨.own root,by simp only [ho],gw⟩
   ·exact qa1 hh
  ·cases hx with
   | fpI => cases hb
   | fpP hf =>
    simp only [blkOf,qa] at hb
    subst hb
    exact ⟨.fr,rfl,_,hf⟩
  ·cases hx; cases hb
  ·cases hx; cases hb
  ·exact qa1 hh
 ·rename_i t m x ok
  have hm := hev m
  simp only [quietX,lookupS] at hh
  exact qa1 hh
 ·rename_i t x l u m
  have hx := hev x
  simp only [quietX] at hh
  simp only [readX]
  generalize evalA S ρ x = a at hx hb
  generalize ev x = sv at hx hh
  cases hx with
  | ptr hβ =>
   simp only [blkOf,qa] at hb
   subst hb
   simp only [sliceS] at hh
   split at hh
   ·rename_i n e cs ht _ ho
    obtain ⟨b',as,g1,gw,_⟩ := hS.obj _ _ (hget_some ho)
    rw [hβ] at g1
    simp only [qa] at g1
    subst g1
    exact ⟨_,rfl,gw⟩
   ·exact qa1 hh
  | a =>
   exfalso
   cases a <;> simp only [blkOf] at hb <;> first | (cases hb; done) | skip
   ·simp only [sliceS,strOf] at hh
    split at hh
    ·obtain ⟨r,h1,h2⟩ := opt_some hh
     rw [slice_dead (by simp)] at h1
     cases h1
    ·exact stuck_no hh
   ·simp only [sliceS,strOf] at hh
    split at hh
    ·obtain ⟨r,h1,h2⟩ := opt_some hh
     rw [slice_map] at h1
     cases h1
    ·exact stuck_no hh
  | R hg hs => cases a <;> simp [isSlB] at hs <;> simp [blkOf] at hb
  | ep => simp only [sliceS] at hh; exact qa1 hh
  | mapr => simp only [sliceS] at hh; exact qa1 hh
  | fpP => simp only [sliceS] at hh; exact qa1 hh
  | any => simp only [sliceS] at hh; exact qa1 hh
  | _ => simp [blkOf] at hb
 ·rename_i s d x
  have hx := hev x
  simp only [quietX,convS] at hh
  simp only [readX]
  generalize evalA S ρ x = a at hx hb
  generalize ev x = sv at hx hh
  split at hh
  ·cases hx
   exfalso
   cases a <;> simp only [slBlk] at hb <;> first | (cases hb; done) | skip
   obtain ⟨r,h1,h2⟩ := opt_some hh
   simp only [convHA,convA] at h1
   split at h1
   ·rename_i e
    split at e <;> simp_all
   ·simp [strOfA] at h1
    (repeat' split at h1) <;> simp_all
  ·cases hx; cases hb
  ·cases hx; cases hb
  ·rename_i sz id off len cap ex
   cases hx with
   | sl hβ =>
    simp only [slBlk,qa] at hb
    subst hb
    split at hh
    ·rename_i e cs hs hd ho
     obtain ⟨b',ys,g1,gw,_⟩ := hS.obj id _ (hget_some ho)
     rw [hβ] at g1
     simp only [qa] at g1
     subst g1
     exact ⟨_,rfl,gw⟩
    ·exact qa1 hh
  ·rename_i id
   cases hx with
   | R hγ _ =>
   split at hh
   ·rename_i e n l full root hs hd ho
    rcases hS.obj id _ (hget_some ho) with ⟨_,_,a',g1,g2⟩ | ⟨b',off,cap,ex,as,g1,g2,gw,_⟩
    ·rw [hγ] at g1
     simp only [qa] at g1
     subst g1
     rcases g2 with rfl | rfl <;> cases hb
    ·rw [hγ] at g1
     simp only [qa] at g1
     subst g1
     simp only [slBlk,qa] at hb
     subst hb
     simp only [ho]
     exact ⟨_,rfl,gw⟩
   ·exact qa1 hh
  ·exact qa1 hh
 ·rename_i args ts
  split at hb
  ·rename_i x hx0
   split at hb
   ·rename_i b' e
    exfalso
    have hx := hev x
    rw [e] at hx
    simp only [quietX,hx0] at hh
    split at hh
    ·rename_i t x' h1 h2
     simp only [qa] at h2
     subst h2
     unfold lenS at hh
     generalize ev x = sv at hx hh
     split at hh
     ·split at hh
      ·cases hx
      ·cases hx
      ·exact stuck_no hh
     ·split at hh
      ·exact stuck_no hh
      ·exact stuck_no hh
      ·exact stuck_no hh
      ·rename_i q1 q2 q3
       cases hx with
       | a => exact q3 _ rfl
       | mapr => exact q1 _ rfl
       | any => exact q2 rfl
       | R _ hs => simp [isSlB] at hs
     ·split at hh
      ·cases hx
      ·cases hx
      ·cases hx
      ·cases hx
      ·cases hx with | R _ hs => simp [isSlB] at hs
      ·exact stuck_no hh
     ·exact stuck_no hh
    ·exact stuck_no hh
   ·cases hb
  ·cases hb
 ·cases hb
theorem storeX_live {P : Program} {wlo : Nat} {t : TypeId} {h : SH C} {x v : SV C.T} {K : SV C.T → SH C → Tree} (hh : (storeX P wlo t h x v K).holds) :
 ∃ id,(∃ off,x = .ptr id off ∧ ∃ cs,hget h id = some (.cells cs)) ∨ (∃ i off,x = .ep id i off ∧ ∃ n l full root,hget h id = some (.rows n l full root) ∧ l ≠ []) := by
 unfold storeX at hh
 split at hh
 ·exact qa1 hh
 ·split at hh
  ·split at hh
   ·rename_i id off
    split at hh
    ·rename_i cs ho
     exact ⟨id,.inl ⟨off,rfl,cs,ho⟩⟩
    ·exact qa1 hh
   ·rename_i id i off
    split at hh
    ·rename_i n l full root ho
     split at hh
     ·split at hh
      ·refine ⟨id,.inr ⟨i,off,rfl,n,l,full,root,ho, ?_⟩⟩
       rintro rfl
       have := hh.1
       simp at this
       omega
      ·exact qa1 hh
     ·exact qa1 hh
    ·exact qa1 hh
   ·exact qa1 hh
  ·exact qa1 hh
theorem appendX_live {P : Program} {wlo : Nat} {t u : TypeId} {h : SH C} {x : SV C.T} {sz id off len cap : Nat} {ex : Bool} {K : SV C.T → SH C → Tree} (hh : (appendX P wlo t u h (.sl sz id off len cap ex) x K).holds) : ∃ cs,hget h id = some (.cells cs) := by
 unfold appendX at hh
 split at hh
 ·split at hh
  ·split at hh
   ·exact qa1 hh
   ·split at hh
    ·exact qa1 hh
    ·simp only at hh
     split at hh
     ·exact qa1 hh
     ·split at hh
      ·rename_i cs ho; exact ⟨cs,ho⟩
      ·exact qa1 hh
   ·simp only at hh
    split at hh
    ·rename_i cs ho; exact ⟨cs,ho⟩
    ·exact qa1 hh
  ·exact qa1 hh
 ·exact qa1 hh
theorem touchX_ok {S : AStat} {lo wlo : Nat} {ρ : List AVal} {ev : Operand → SV C.T} (hev : ∀ x,Er E (ev x) (evalA S ρ x)) {h : SH C} {H : Heap} (hS : SimH E lo wlo h H) {op : Op} {ids : List Nat} {other : Bool} (ht : touchX S h ev op = some (ids,other)) (hstore : ∀ t x v,op = .store t x v → ∃ id,(∃ off,ev x = .ptr id off ∧ ∃ cs,hget h id = some (.cells cs)) ∨ (∃ i off,ev x = .ep id i off ∧ ∃ n l full root,hget h id = some (.rows n l full root) ∧ l ≠ []))
 (hmap : ∀ t m x v,op = .mapUpdate t m x v → ∃ id es,ev m = .mapr id ∧ hget h id = some (.mp es))
 (happ : ∀ c x sz id off len cap ex,op = .call c → c.callee = .builtin .append → c.args[0]? = some x → ev x = .sl sz id off len cap ex → ∃ cs,hget h id = some (.cells cs)) :
 ∃ l,touchA S ρ op = some l ∧ ∀ b,b ∈ l → (∃ root,root ∈ ids ∧ E.ω b = some root) ∨ (other = true ∧ ∃ cs,E.Fr b cs) := by
 unfold touchX at ht
 split at ht
 ·rename_i t x v
  have hx := hev x
  obtain ⟨id,h1⟩ := hstore t x v rfl
  simp only [touchA]
  refine ⟨_,rfl, ?_⟩
  intro b hb
  generalize evalA S ρ x = a at hx hb
  rcases h1 with ⟨off,e,cs,ho⟩ | ⟨i,off,e,n,l,full,root,ho,hne⟩
  ·rw [e] at hx ht
   cases hx with
   | ptr hβ =>
    simp only [blkOf,Option.toList_some,List.mem_singleton] at hb
    subst hb
    simp only [qa,qe] at ht
    obtain ⟨rfl,rfl⟩ := ht
    obtain ⟨b',as,g1,gw,_⟩ := hS.obj id _ (hget_some ho)
    rw [hβ] at g1
    simp only [qa] at g1
    subst g1
    exact .inl ⟨id,by simp,gw⟩
  ·rw [e] at hx ht
   cases hx with
   | ep hg =>
    simp only [blkOf,Option.toList_some,List.mem_singleton] at hb
    subst hb
    simp only [ho,qa,qe] at ht
    obtain ⟨rfl,rfl⟩ := ht
    rcases hS.obj id _ (hget_some ho) with ⟨rfl,_⟩ | ⟨b',off',cap',ex',as,g1,g2,gw,_⟩
    ·exact (hne rfl).elim
    ·rw [hg] at g1
     simp only [qa,AVal.sl.injEq] at g1
     obtain ⟨rfl,rfl,rfl,rfl,rfl,rfl⟩ := g1
     exact .inl ⟨root,by simp,gw⟩
 ·rename_i t m x v
  obtain ⟨id,es,e,ho⟩ := hmap t m x v rfl
  have hm := hev m
  rw [e] at hm ht
  simp only [touchA]
  refine ⟨_,rfl, ?_⟩
  intro b hb
  generalize evalA S ρ m = a at hm hb
  cases hm with
  | mapr hβ =>
   simp only [blkOf,Option.toList_some,List.mem_singleton] at hb
   subst hb
   simp only [qa,qe] at ht
   obtain ⟨rfl,rfl⟩ := ht
   obtain ⟨b',as,g1,gw,_⟩ := hS.obj id _ (hget_some ho)
   rw [hβ] at g1
   simp only [qa] at g1
   subst g1
   exact .inl ⟨id,by simp,gw⟩
 ·rename_i c
  obtain ⟨callee,args,ts⟩ := c
  simp only at ht
  split at ht
  ·split at ht
   ·rename_i x hx0
    have hx := hev x
    simp only [touchA,hx0]
    split at ht
    ·rename_i e
     rw [e] at hx
     generalize evalA S ρ x = a at hx
     cases hx
     simp only [qa,qe] at ht
     obtain ⟨rfl,rfl⟩ := ht
     exact ⟨[],rfl,fun b hb => by simp at hb⟩
    ·rename_i sz id off len cap ex e
     rw [e] at hx
     obtain ⟨cs,ho⟩ := happ _ x sz id off len cap ex rfl rfl hx0 e
     generalize evalA S ρ x = a at hx
     cases hx with
     | sl hβ =>
      simp only [qa,qe] at ht
      obtain ⟨rfl,rfl⟩ := ht
      obtain ⟨b',as,g1,gw,_⟩ := hS.obj id _ (hget_some ho)
      rw [hβ] at g1
      simp only [qa] at g1
      subst g1
      exact ⟨_,rfl,fun b hb => by simp only [List.mem_singleton] at hb; subst hb; exact .inl ⟨id,by simp,gw⟩⟩
    ·rename_i id e
     rw [e] at hx
     split at ht
     ·rename_i n l full root ho
      simp only [qa,qe] at ht
      obtain ⟨rfl,rfl⟩ := ht
      generalize evalA S ρ x = a at hx
      cases hx with
      | R hg hs =>
       rcases hS.obj id _ (hget_some ho) with ⟨rfl,_,a',g1,g2⟩ | ⟨b',off',cap',ex',as,g1,g2,gw,_⟩
       ·rw [hg] at g1
        simp only [qa] at g1
        subst g1
        rcases g2 with rfl | rfl
        ·exact ⟨[],rfl,fun b hb => by simp at hb⟩
        ·exact ⟨[],rfl,fun b hb => by simp at hb⟩
       ·rw [hg] at g1
        simp only [qa] at g1
        subst g1
        exact ⟨[b'],rfl,fun b hb => by simp only [List.mem_singleton] at hb; subst hb; exact .inl ⟨root,by simp,gw⟩⟩
     ·cases ht
    ·cases ht
   ·cases ht
  ·rename_i f
   have hf := hev f
   have key : ∀ g,evalA S ρ f = .fn (.func g) (match evalA S ρ f with | .fn _ a _ => a | _ => []) (match evalA S ρ f with | .fn _ _ b => b | _ => []) → (if stillB S g then some (([] : List Nat),false) else none) = some (ids,other) →
    ∃ l,touchA S ρ (.call ⟨.value f,args,ts⟩) = some l ∧ ∀ b,b ∈ l → (∃ root,root ∈ ids ∧ E.ω b = some root) ∨ (other = true ∧ ∃ cs,E.Fr b cs) := by
    intro g e ht
    simp only [touchA]
    rw [e]
    simp only
    split at ht
    ·rename_i hc
     rw [if_pos hc]
     exact ⟨[],rfl,fun b hb => by simp at hb⟩
    ·cases ht
   split at ht
   ·rename_i g x y e
    rw [e] at hf
    generalize hv : evalA S ρ f = v at hf
    cases hf
    exact key g (by rw [hv]) ht
   ·rename_i g x y e
    rw [e] at hf
    generalize hv : evalA S ρ f = v at hf
    cases hf
    exact key g (by rw [hv]) ht
   ·cases ht
  ·cases ht
 ·cases ht
end Go.Sy

/- Operations whose order is open, over symbolic values: it is sound. Generic: over any program. -/
namespace Go.Sy
open Go.Am
set_option linter.unusedVariables false
set_option linter.unusedSimpArgs false
variable {C : Codec} {E : Env}
def apart1 (B : List Nat) (r : Nat × Nat) (t : Nat × Option (List Nat)) : Bool :=
 (B.getD r.1 0).testBit t.1 || (B.getD t.1 0).testBit r.1 || match t.2 with
  | some l => !l.contains r.2
  | none => false
def RdOk (E : Env) (rA : List (Nat × Nat)) (rd : RdS) : Prop := ∀ k b,(k,b) ∈ rA → ∃ q,(k,q) ∈ rd ∧ RkOk E b q
def TkOk (E : Env) (o : Option (List Nat)) : TK → Prop
 | .tch ids other => ∃ l,o = some l ∧ ∀ b,b ∈ l → (∃ root,root ∈ ids ∧ E.ω b = some root) ∨ (other = true ∧ ∃ cs,E.Fr b cs)
 | .kept K N => ∃ l,o = some l ∧ (∀ id,id ∈ K → ∃ b,E.β id = some b ∧ b ∉ l) ∧ ∀ id p,(id,p) ∈ N → p → ∃ b,E.β id = some b ∧ b ∉ l
def TcOk (E : Env) (tA : List (Nat × Option (List Nat))) (tc : TcS) : Prop := ∀ k o,(k,o) ∈ tA → ∃ s,(k,s) ∈ tc ∧ TkOk E o s
theorem RdOk.mono {E E' : Env} (k : E.le E') {rA : List (Nat × Nat)} {rd : RdS} (h : RdOk E rA rd) : RdOk E' rA rd := by
 intro i b hb
 obtain ⟨q,h1,h2⟩ := h i b hb
 exact ⟨q,h1,h2.mono k⟩
theorem TkOk.mono {E E' : Env} (k : E.le E') {o : Option (List Nat)} : ∀ {s : TK},TkOk E o s → TkOk E' o s
 | .tch _ _,⟨l,h3,h4⟩ => ⟨l,h3,fun b hb => (h4 b hb).imp (fun ⟨root,p,q⟩ => ⟨root,p,k.ω _ _ q⟩) (fun ⟨p,cs,q⟩ => ⟨p,cs,k.Fr _ _ q⟩)⟩
 | .kept _ _,⟨l,h3,h4,h5⟩ => ⟨l,h3,fun id hid => (h4 id hid).imp fun b h => ⟨k.β _ _ h.1,h.2⟩,fun id p hid hp => (h5 id p hid hp).imp fun b h => ⟨k.β _ _ h.1,h.2⟩⟩
theorem TcOk.mono {E E' : Env} (k : E.le E') {tA : List (Nat × Option (List Nat))} {tc : TcS} (h : TcOk E tA tc) : TcOk E' tA tc := by
 intro i o ho
 obtain ⟨s,h1,h2⟩ := h i o ho
 exact ⟨s,h1,h2.mono k⟩
def PairOk (B : List Nat) (r : Nat × RK) (t : Nat × TK) : Prop := pairS B r t = true ∨ ∃ p,needS r t = some p ∧ p
theorem apartN_ok {B : List Nat} {K : Tree} : ∀ {l : List ((Nat × RK) × (Nat × TK))},(apartN B K l).holds → K.holds ∧ ∀ x,x ∈ l → PairOk B x.1 x.2
 | [],hh => ⟨hh,fun x hx => by cases hx⟩
 | (r,t) :: l,hh => by
  unfold apartN at hh
  cases hb : pairS B r t with
  | true =>
   rw [hb] at hh
   obtain ⟨h1,h2⟩ := apartN_ok (l := l) hh
   refine ⟨h1,fun x hx => ?_⟩
   rcases List.mem_cons.1 hx with rfl | hx
   ·exact .inl hb
   ·exact h2 x hx
  | false =>
   rw [hb] at hh
   simp only [cond_false] at hh
   split at hh
   ·rename_i p e
    obtain ⟨hp,hh⟩ := hh
    obtain ⟨h1,h2⟩ := apartN_ok (l := l) hh
    refine ⟨h1,fun x hx => ?_⟩
    rcases List.mem_cons.1 hx with rfl | hx
    ·exact .inr ⟨p,e,hp⟩
    ·exact h2 x hx
   ·exact qa1 hh
theorem pairsS_mem {rd : RdS} {tc : TcS} {r : Nat × RK} {t : Nat × TK} (h1 : r ∈ rd) (h2 : t ∈ tc) : (r,t) ∈ pairsS rd tc := List.mem_flatMap.2 ⟨r,h1,List.mem_map.2 ⟨t,h2,rfl⟩⟩
theorem apartS_pair {B : List Nat} {rd : RdS} {tc : TcS} (ha : apartS B rd tc = true) : ∀ r,r ∈ rd → ∀ t,t ∈ tc → PairOk B r t := fun r h1 t h2 => .inl (List.all_eq_true.1 (List.all_eq_true.1 ha _ h1) _ h2)
theorem apartS_ok {lo wlo : Nat} {h : SH C} {H : Heap} (hS : SimH E lo wlo h H) {B : List Nat} {rA : List (Nat × Nat)} {rd : RdS} {tA : List (Nat × Option (List Nat))} {tc : TcS} (hr : RdOk E rA rd) (ht : TcOk E tA tc) (ha : ∀ r,r ∈ rd → ∀ t,t ∈ tc → PairOk B r t) :
 ∀ r,r ∈ rA → ∀ t,t ∈ tA → apart1 B r t = true := by
 intro r hr0 t ht0
 obtain ⟨q,h1,h2⟩ := hr r.1 r.2 hr0
 obtain ⟨s,h4,h5⟩ := ht t.1 t.2 ht0
 rcases ha _ h1 _ h4 with this | ⟨p,hp1,hp2⟩
 rotate_left
 ·unfold needS at hp1
  split at hp1
  ·rename_i K N id e1 e2
   obtain ⟨x,hx,rfl⟩ := Option.map_eq_some_iff.1 hp1
   have hx1 := List.mem_of_find?_eq_some hx
   have hx2 := List.find?_some hx
   simp only at e1 e2
   subst e1
   subst e2
   simp only [Nat.beq_eq] at hx2
   obtain ⟨l,h7,_,h8⟩ := h5
   obtain ⟨b,g1,g2⟩ := h8 x.1 x.2 hx1 hp2
   rw [hx2,h2.2] at g1
   simp only [qa] at g1
   unfold apart1
   rw [Bool.or_eq_true]
   right
   rw [h7]
   simp only
   rw [Bool.not_eq_true',Bool.eq_false_iff]
   intro hc
   exact g2 (by rw [← g1]; simpa using hc)
  ·cases hp1
 unfold pairS at this
 simp only at this
 unfold apart1
 rw [Bool.or_eq_true] at this ⊢
 rcases this with h6 | h6
 ·exact .inl h6
 ·right
  cases s with
  | tch ids other =>
   simp only at h6
   obtain ⟨l,h7,h8⟩ := h5
   rw [h7]
   simp only
   rw [Bool.not_eq_true',Bool.eq_false_iff]
   intro hc
   have hmem : r.2 ∈ l := by simpa using hc
   rcases h8 _ hmem with ⟨root,g1,g2⟩ | ⟨g1,cs,g2⟩
   ·have key : ∀ root',E.ω r.2 = some root' → (!ids.contains root') = true → False := by
     intro root' g3 h6
     rw [g2] at g3
     simp only [qa] at g3
     subst g3
     simp only [Bool.not_eq_true'] at h6
     rw [Bool.eq_false_iff] at h6
     exact h6 (by simpa using g1)
    cases q with
    | fr =>
     obtain ⟨cs,g3⟩ := h2
     exact (hS.own _ _ g2).2 cs g3
    | own root' => exact key root' h2 h6
    | nm id => exact key id h2.1 h6
   ·cases q with
    | fr => simp only at h6; rw [g1] at h6; cases h6
    | own root' => exact (hS.own _ _ h2).2 cs g2
    | nm id => exact (hS.own _ _ h2.1).2 cs g2
  | kept K N =>
   obtain ⟨l,h7,h8,_⟩ := h5
   cases q with
   | fr => cases h6
   | own root' => cases h6
   | nm id =>
    simp only at h6
    obtain ⟨b,g1,g2⟩ := h8 id (by simpa using h6)
    rw [h2.2] at g1
    simp only [qa] at g1
    rw [h7]
    simp only
    rw [Bool.not_eq_true',Bool.eq_false_iff]
    intro hc
    exact g2 (by rw [← g1]; simpa using hc)
theorem keptL_get {h h' : SH C} : ∀ {n id : Nat},id ∈ keptL h h' n → id < n ∧ ∃ cs ds,hget h id = some (.cells cs) ∧ hget h' id = some (.cells ds) ∧ samePS cs ds = true
 | 0,id,hm => by cases hm
 | n + 1,id,hm => by
  unfold keptL at hm
  cases hb : keptB (hget h n) (hget h' n) with
  | false =>
   rw [hb] at hm
   obtain ⟨h1,h2⟩ := keptL_get (n := n) hm
   exact ⟨by omega,h2⟩
  | true =>
   rw [hb] at hm
   rcases List.mem_cons.1 hm with rfl | hm
   ·refine ⟨by omega, ?_⟩
    unfold keptB at hb
    split at hb
    ·rename_i cs ds e1 e2
     exact ⟨cs,ds,e1,e2,hb⟩
    ·cases hb
   ·obtain ⟨h1,h2⟩ := keptL_get (n := n) hm
    exact ⟨by omega,h2⟩
theorem samePS_ok {E E1 : Env} {n N : Nat} (hle : ∀ id b,E.β id = some b → E1.β id = some b) : ∀ {cs ds : List (SV C.T)} {as bs : List AVal},samePS cs ds = true → Ers E cs as → Ers E1 ds bs → samePs as bs = true
 | [],[],as,bs,_,h1,h2 => by rw [h1.inv_nil,h2.inv_nil]; rfl
 | [],_ :: _,as,bs,h,_,_ => by simp [samePS] at h
 | c :: cs,[],as,bs,h,_,_ => by cases c <;> simp [samePS] at h
 | c :: cs,d :: ds,as,bs,h,h1,h2 => by
  cases c <;> cases d <;> simp only [samePS] at h <;> try cases h
  simp only [qj,Nat.beq_eq] at h
  obtain ⟨⟨rfl,rfl⟩,h⟩ := h
  obtain ⟨a,as',rfl,g1,g2⟩ := h1.inv_cons
  obtain ⟨b,bs',rfl,g3,g4⟩ := h2.inv_cons
  cases g1 with
  | ptr q1 =>
   cases g3 with
   | ptr q2 =>
    have := hle _ _ q1
    rw [q2] at this
    simp only [qa] at this
    subst this
    simp only [samePs,qj,Nat.beq_eq]
    exact ⟨⟨trivial,trivial⟩,samePS_ok (n := n) (N := N) hle h g2 g4⟩
theorem sameNS_ok {E E1 : Env} (hle : ∀ id b,E.β id = some b → E1.β id = some b) : ∀ {cs ds : List (SV C.T)} {as bs : List AVal} {p : Prop},sameNS cs ds = some p → p → Ers E cs as → Ers E1 ds bs → samePs as bs = true
 | [],[],as,bs,_,_,_,h1,h2 => by rw [h1.inv_nil,h2.inv_nil]; rfl
 | [],_ :: _,as,bs,_,h,_,_,_ => by simp [sameNS] at h
 | c :: cs,[],as,bs,_,h,_,_,_ => by simp [sameNS] at h
 | c :: cs,d :: ds,as,bs,p,h,hp,h1,h2 => by
  obtain ⟨a,as',rfl,g1,g2⟩ := h1.inv_cons
  obtain ⟨b,bs',rfl,g3,g4⟩ := h2.inv_cons
  unfold sameNS at h
  split at h
  ·rename_i i o i' o'
   cases hb : (Nat.beq i i' && Nat.beq o o') with
   | false => rw [hb] at h; cases h
   | true =>
    rw [hb] at h
    simp only [qj,Nat.beq_eq] at hb
    obtain ⟨rfl,rfl⟩ := hb
    cases g1 with
    | ptr q1 =>
     cases g3 with
     | ptr q2 =>
      have := hle _ _ q1
      rw [q2] at this
      simp only [qa] at this
      subst this
      simp only [samePs,qj,Nat.beq_eq]
      exact ⟨⟨trivial,trivial⟩,sameNS_ok hle h hp g2 g4⟩
  ·split at h
   ·rename_i k n k' n' e1 e2
    split at h
    ·rename_i hk
     subst hk
     obtain ⟨q,hq,rfl⟩ := Option.map_eq_some_iff.1 h
     obtain ⟨rfl,hp⟩ := hp
     rw [intOf_ok g1 e1,intOf_ok g3 e2]
     simp only [samePs,decide_true,Bool.true_and]
     exact sameNS_ok hle hq hp g2 g4
    ·cases h
   ·cases h
theorem keptN_get {h h' : SH C} : ∀ {n id : Nat} {p : Prop},(id,p) ∈ keptN h h' n → id < n ∧ ∃ cs ds,hget h id = some (.cells cs) ∧ hget h' id = some (.cells ds) ∧ sameNS cs ds = some p
 | 0,id,p,hm => by cases hm
 | n + 1,id,p,hm => by
  unfold keptN at hm
  split at hm
  ·rename_i q hb
   rcases List.mem_cons.1 hm with e | hm
   ·cases e
    refine ⟨by omega, ?_⟩
    unfold keptNB at hb
    split at hb
    ·rename_i cs ds e1 e2
     exact ⟨cs,ds,e1,e2,hb⟩
    ·cases hb
   ·obtain ⟨h1,h2⟩ := keptN_get (n := n) hm
    exact ⟨by omega,h2⟩
  ·obtain ⟨h1,h2⟩ := keptN_get (n := n) hm
   exact ⟨by omega,h2⟩
theorem touch_value {S : AStat} {ρ : List AVal} {c : Call} {f : Operand} (hc : c.callee = .value f) {l : List Nat} (h : touchA S ρ (.call c) = some l) : l = [] := by
 obtain ⟨callee,args,ts⟩ := c
 simp only at hc
 subst hc
 simp only [touchA] at h
 split at h
 ·split at h
  ·cases h; rfl
  ·cases h
 ·cases h
theorem tk0_ok {S : AStat} {ρ : List AVal} {op : Op} {E1 : Env} {H H1 : Heap} {t : Option (List Nat × Bool)} (ht : ∀ ids other,t = some (ids,other) → ∃ l,touchA S ρ op = some l ∧ ∀ b,b ∈ l → (∃ root,root ∈ ids ∧ E1.ω b = some root) ∨ (other = true ∧ ∃ cs,E1.Fr b cs)) : TkOk E1 (touchD S ρ op H H1) (tk0 t) := by
 cases t with
 | none =>
  unfold touchD
  split
  ·exact ⟨_,rfl,(fun id h => by cases h),(fun id p h => by cases h)⟩
  ·exact ⟨_,rfl,(fun id h => by cases h),(fun id p h => by cases h)⟩
 | some p =>
  obtain ⟨ids,other⟩ := p
  obtain ⟨l,h1,h2⟩ := ht ids other rfl
  refine ⟨l, ?_,h2⟩
  unfold touchD
  rw [h1]
theorem tkX_ok {S : AStat} {lo wlo N : Nat} {ρ : List AVal} {ev : Operand → SV C.T} {op : Op} {E E1 : Env} {h h1 : SH C} {H H1 : Heap} (hS : SimH E lo wlo h H) (hS1 : SimH E1 lo wlo h1 H1) (hle : LeN h.length N E E1)
 (ht : ∀ ids other,touchX S h ev op = some (ids,other) → ∃ l,touchA S ρ op = some l ∧ ∀ b,b ∈ l → (∃ root,root ∈ ids ∧ E1.ω b = some root) ∨ (other = true ∧ ∃ cs,E1.Fr b cs)) : TkOk E1 (touchD S ρ op H H1) (tkX S h h1 ev op) := by
 have none' : TkOk E1 (touchD S ρ op H H1) (.kept [] []) := by
  unfold touchD
  split
  ·exact ⟨_,rfl,(fun id h => by cases h),(fun id p h => by cases h)⟩
  ·exact ⟨_,rfl,(fun id h => by cases h),(fun id p h => by cases h)⟩
 unfold tkX
 split
 ·rename_i ids o e
  have := tk0_ok (H := H) (H1 := H1) (t := some (ids,o)) (E1 := E1) (S := S) (ρ := ρ) (op := op) fun ids' other' e' => by cases e'; exact ht ids o e
  exact this
 ·cases op with
  | call c =>
   simp only
   split
   ·rename_i f hc
    have key : ∀ l,touchD S ρ (.call c) H H1 = some l → TkOk E1 (some l) (.kept (keptL h h1 h.length) (keptN h h1 h.length)) := by
     intro l hl
     have same : ∀ (id : Nat) (cs ds : List (SV C.T)),hget h id = some (.cells cs) → hget h1 id = some (.cells ds) → (∀ as bs,Ers E cs as → Ers E1 ds bs → samePs as bs = true) → ∃ b,E1.β id = some b ∧ b ∉ l := by
      intro id cs ds e1 e2 e3
      obtain ⟨b,as,k1,_,k2,k3⟩ := hS.obj id _ (hget_some e1)
      obtain ⟨b',bs,k4,_,k5,k6⟩ := hS1.obj id _ (hget_some e2)
      have hb := hle.le.β _ _ k1
      rw [k4] at hb
      simp only [qa] at hb
      subst hb
      refine ⟨b',k4,fun hm => ?_⟩
      unfold touchD at hl
      split at hl
      ·rename_i l' e
       cases hl
       rw [touch_value hc e] at hm
       cases hm
      ·cases hl
       have := (List.mem_filter.1 hm).2
       simp only at this
       rw [k2,k5,show sameB (some (some (.cells as))) (some (some (.cells bs))) = samePs as bs from rfl,e3 as bs k3 k6] at this
       cases this
     exact ⟨l,rfl,(fun id hid => by
      obtain ⟨hlt,cs,ds,e1,e2,e3⟩ := keptL_get hid
      exact same id cs ds e1 e2 fun as bs k3 k6 => samePS_ok (n := 0) (N := 0) hle.le.β e3 k3 k6),(fun id p hid hp => by
      obtain ⟨hlt,cs,ds,e1,e2,e3⟩ := keptN_get hid
      exact same id cs ds e1 e2 fun as bs k3 k6 => sameNS_ok hle.le.β e3 hp k3 k6)⟩
    cases htd : touchD S ρ (.call c) H H1 with
    | none => unfold touchD at htd; split at htd <;> cases htd
    | some l => exact key l htd
   ·exact none'
  | _ => exact none'
def newAt (ops : Array Oper) (j : Nat) : Bool := match ops[j]? with | some o => isNewB o.op | none => false
structure Pos (E : Env) (n0 : Nat) (ops : Array Oper) (k : Nat) (news : List (Nat × Nat)) (h : SH C) (H : Heap) : Prop where
 len : ∀ j,newAt ops j = true → n0 + j < H.length
 was : ∀ j,newAt ops j = true → (∃ id,(j,id) ∈ news ∧ E.β id = some (n0 + j)) ∨ E.ω (n0 + j) = none
 will : ∀ j,k ≤ j → newAt ops j = true → H[n0 + j]? = some none ∧ E.ω (n0 + j) = none
 ids : ∀ j id,(j,id) ∈ news → E.β id = some (n0 + j) ∧ id < h.length ∧ newAt ops j = true
 fr : ∀ b cs,E.Fr b cs → b < n0
theorem hidden_nil {ops : Array Oper} {B : List Nat} {n0 k : Nat} (h : noHid ops B k = true) : hidden ops B n0 k = [] := by
 unfold hidden
 rw [List.map_eq_nil_iff,List.filter_eq_nil_iff]
 intro j hj
 unfold noHid at h
 have := List.all_eq_true.1 h j hj
 cases ho : ops[j]? with
 | none => simp [ho]
 | some o =>
  simp only [ho] at this ⊢
  cases hn : isNewB o.op with
  | false => simp
  | true => simp only [hn,Bool.not_true,Bool.false_or,qj] at this; intro hc; rw [this.2] at hc; cases hc
theorem noHid_lt {ops : Array Oper} {B : List Nat} {k j : Nat} (h : noHid ops B k = true) (hj : newAt ops j = true) : j < k := by
 unfold newAt at hj
 split at hj
 ·rename_i o ho
  have hlt : j < ops.size := by
   rcases qm j ops.size with h1 | h1
   ·exact h1
   ·rw [Array.getElem?_eq_none h1] at ho; cases ho
  unfold noHid at h
  have := List.all_eq_true.1 h j (List.mem_range.2 hlt)
  rw [ho] at this
  simp only [hj,Bool.not_true,Bool.false_or,qj] at this
  have := this.1
  rwa [Nat.blt_eq] at this
 ·cases hj
theorem mem_hidden {ops : Array Oper} {B : List Nat} {n0 k b : Nat} : b ∈ hidden ops B n0 k ↔ ∃ j,b = n0 + j ∧ newAt ops j = true ∧ (B.getD k 0).testBit j = false := by
 unfold hidden
 rw [List.mem_map]
 constructor
 ·rintro ⟨j,h1,rfl⟩
  rw [List.mem_filter] at h1
  obtain ⟨h1,h2⟩ := h1
  simp only [qj,Bool.not_eq_true'] at h2
  exact ⟨j,rfl,h2.1,h2.2⟩
 ·rintro ⟨j,rfl,h1,h2⟩
  refine ⟨j, ?_,rfl⟩
  rw [List.mem_filter,List.mem_range]
  unfold newAt at h1
  refine ⟨?_, ?_⟩
  ·rcases qm j ops.size with h3 | h3
   ·exact h3
   ·rw [Array.getElem?_eq_none h3] at h1; cases h1
  ·simp only [qj,Bool.not_eq_true']
   exact ⟨h1,h2⟩
theorem hide_get : ∀ (bs : List Nat) (H : Heap) (b : Nat),(hide H bs)[b]? = if b ∈ bs then (if b < H.length then some none else none) else H[b]?
 | [],H,b => by simp [hide]
 | c :: bs,H,b => by
  simp only [hide]
  rw [hide_get bs,qz,qh]
  by_cases h1 : b ∈ bs
  ·simp [h1]
  ·by_cases h2 : c = b
   ·subst h2; simp [h1]
   ·have h3 : ¬ b = c := fun e => h2 e.symm
    simp [h1,h2,h3]
theorem unhide_get (H0 : Heap) : ∀ (bs : List Nat) (H : Heap) (b : Nat),(unhide H0 H bs)[b]? = if b ∈ bs then (if b < H.length then some (H0.getD b none) else none) else H[b]?
 | [],H,b => by simp [unhide]
 | c :: bs,H,b => by
  simp only [unhide]
  rw [unhide_get H0 bs,qz,qh]
  by_cases h1 : b ∈ bs
  ·simp [h1]
  ·by_cases h2 : c = b
   ·subst h2; simp [h1]
   ·have h3 : ¬ b = c := fun e => h2 e.symm
    simp [h1,h2,h3]
theorem hide_len : ∀ (bs : List Nat) (H : Heap),(hide H bs).length = H.length
 | [],H => rfl
 | c :: bs,H => by simp only [hide]; rw [hide_len bs,qz]
theorem unhide_len (H0 : Heap) : ∀ (bs : List Nat) (H : Heap),(unhide H0 H bs).length = H.length
 | [],H => rfl
 | c :: bs,H => by simp only [unhide]; rw [unhide_len H0 bs,qz]
theorem hideS_get : ∀ (ids : List Nat) (h : SH C) (i : Nat),(hideS h ids)[i]? = if i ∈ ids then (if i < h.length then some none else none) else h[i]?
 | [],h,i => by simp [hideS]
 | c :: ids,h,i => by
  simp only [hideS]
  rw [hideS_get ids,qz,qh]
  by_cases h1 : i ∈ ids
  ·simp [h1]
  ·by_cases h2 : c = i
   ·subst h2; simp [h1]
   ·have h3 : ¬ i = c := fun e => h2 e.symm
    simp [h1,h2,h3]
theorem unhideS_get (h0 : SH C) : ∀ (ids : List Nat) (h : SH C) (i : Nat),(unhideS h0 h ids)[i]? = if i ∈ ids then (if i < h.length then some (h0.getD i none) else none) else h[i]?
 | [],h,i => by simp [unhideS]
 | c :: ids,h,i => by
  simp only [unhideS]
  rw [unhideS_get h0 ids,qz,qh]
  by_cases h1 : i ∈ ids
  ·simp [h1]
  ·by_cases h2 : c = i
   ·subst h2; simp [h1]
   ·have h3 : ¬ i = c := fun e => h2 e.symm
    simp [h1,h2,h3]
theorem hideS_len : ∀ (ids : List Nat) (h : SH C),(hideS h ids).length = h.length
 | [],h => rfl
 | c :: ids,h => by simp only [hideS]; rw [hideS_len ids,qz]
theorem unhideS_len (h0 : SH C) : ∀ (ids : List Nat) (h : SH C),(unhideS h0 h ids).length = h.length
 | [],h => rfl
 | c :: ids,h => by simp only [unhideS]; rw [unhideS_len h0 ids,qz]
theorem hidden2_none {ops : Array Oper} {B : List Nat} {n0 k : Nat} {news : List (Nat × Nat)} {h : SH C} {H : Heap} (hP : Pos E n0 ops k news h H) (h2 : noHid2 ops B k = true) : ∀ b,b ∈ hidden ops B n0 k → H[b]? = some none := by
 intro b hb
 obtain ⟨j,rfl,h3,h4⟩ := mem_hidden.1 hb
 have hlt : j < ops.size := by
  rcases qm j ops.size with h1 | h1
  ·exact h1
  ·simp only [newAt,Array.getElem?_eq_none h1] at h3; cases h3
 have := List.all_eq_true.1 h2 j (List.mem_range.2 hlt)
 unfold newAt at h3
 split at h3
 ·rename_i o ho
  rw [ho] at this
  simp only [h3,h4,Bool.not_true,Bool.false_or,Bool.or_false] at this
  rw [Nat.ble_eq] at this
  exact (hP.will j this (by unfold newAt; rw [ho]; exact h3)).1
 ·cases h3
theorem hide_same {H : Heap} {bs : List Nat} (hb : ∀ b,b ∈ bs → H[b]? = some none) : Am.hide H bs = H := by
 apply List.ext_getElem?
 intro b
 rw [hide_get]
 split
 ·rename_i hm
  rw [hb b hm]
  split
  ·rfl
  ·rename_i hn
   exact absurd (lt_of_some (hb b hm)) hn
 ·rfl
theorem unhide_same {H H1 : Heap} {bs : List Nat} (hb : ∀ b,b ∈ bs → H[b]? = some none ∧ H1[b]? = some none) : Am.unhide H H1 bs = H1 := by
 apply List.ext_getElem?
 intro b
 rw [unhide_get]
 split
 ·rename_i hm
  obtain ⟨h1,h2⟩ := hb b hm
  rw [h2,if_pos (lt_of_some h2),qi,h1]
  rfl
 ·rfl
theorem eff_none {S : AStat} {call : CallF} {lo : Nat} {ρ : List AVal} {H H1 : Heap} {op : Op} {v : AVal} (h : effA S call lo ρ H op = some (v,H1)) (ht : bltB op = true) : ∀ (b : Nat),H[b]? = some none → H1[b]? = some none := by
 intro b hb
 have hlt := lt_of_some hb
 unfold bltB at ht
 split at ht
 ·simp only [effA,qd,qe] at h
  obtain ⟨H',h,_,rfl⟩ := h
  unfold storeA at h
  split at h
  ·split at h
   ·rename_i hcs
    split at h
    ·cases h
     rw [qh]
     split
     ·rename_i e
      subst e
      rw [hb] at hcs
      cases hcs
     ·exact hb
    ·cases h
   ·cases h
  ·cases h
 ·rename_i c
  obtain ⟨callee,args,ts⟩ := c
  simp only at ht
  split at ht
  ·simp only [effA] at h
   split at h
   ·unfold appendA at h
    split at h
    ·simp only at h
     split at h
     ·split at h
      ·cases h
      ·split at h
       ·cases h
       ·split at h
        ·split at h
         ·cases h; exact hb
         ·split at h
          ·cases h
           rw [qg hlt]; exact hb
          ·cases h
        ·split at h
         ·cases h
         ·split at h
          ·cases h; exact hb
          ·split at h
           ·cases h
            rw [qg hlt]; exact hb
           ·cases h
        ·split at h
         ·cases h
         ·split at h
          ·rename_i hcs
           have hne : ∀ {b' : Nat} {x : Option ABlk} {cs : List AVal},H[b']? = some (some (ABlk.cells cs)) → (List.set H b' x : Heap)[b]? = some (none : Option ABlk) := by
            intro b' x cs hc
            rw [qh]
            split
            ·rename_i e
             subst e
             rw [hb] at hc
             cases hc
            ·exact hb
           split at h
           ·split at h
            ·cases h; exact hb
            ·split at h
             ·split at h
              ·cases h
               exact hne hcs
              ·cases h
             ·split at h
              ·split at h
               ·cases h
                rw [qg hlt]; exact hb
               ·split at h
                ·cases h
                 rw [qg (by rw [qz]; exact hlt)]
                 exact hne hcs
                ·cases h
              ·cases h
           ·cases h
          ·cases h
        ·cases h
     ·cases h
    ·cases h
   ·cases h
  ·cases ht
 ·cases ht
theorem SimH.hide {lo wlo : Nat} {h : SH C} {H : Heap} (hS : SimH E lo wlo h H) (ids bs : List Nat) (hb : ∀ b,b ∈ bs → (∀ cs,¬ E.Fr b cs) ∧ ∀ (i : Nat) (o : Obj C.T),h[i]? = some (some o) → E.β i = some b → i ∈ ids) : SimH E lo wlo (hideS h ids) (Am.hide H bs) := by
 have live : ∀ (i : Nat) (o : Obj C.T),(hideS h ids)[i]? = some (some o) → i ∉ ids ∧ h[i]? = some (some o) := by
  intro i o hi
  rw [hideS_get] at hi
  split at hi
  ·split at hi <;> cases hi
  ·rename_i hn; exact ⟨hn,hi⟩
 refine ⟨?_, ?_, ?_, ?_,hS.low, ?_, ?_,hS.βω,by rw [hideS_len]; exact hS.wl,by rw [hide_len]; exact hS.ll⟩
 ·intro i o hi
  obtain ⟨h1,h2⟩ := live i o hi
  refine (hS.obj i o h2).heap fun b hβ => ?_
  rw [hide_get,if_neg]
  exact fun hm => h1 ((hb b hm).2 i o h2 hβ)
 ·intro i i' o o' b hi hi'
  exact hS.inj i i' o o' b (live i o hi).2 (live i' o' hi').2
 ·intro b cs hf
  refine ⟨?_,fun i o hi => (hS.fr b cs hf).2 i o (live i o hi).2⟩
  rw [hide_get,if_neg]
  ·exact (hS.fr b cs hf).1
  ·exact fun hm => (hb b hm).1 cs hf
 ·intro i hi
  exact hS.fresh i (by rw [hideS_len] at hi; exact hi)
 ·intro i b hβ
  rw [hide_len]
  exact hS.bnd i b hβ
 ·intro b r hr
  rw [hide_len]
  exact hS.own b r hr
theorem SimH.unhide {lo wlo N : Nat} {h h' : SH C} {H H' : Heap} {E' : Env} (hS : SimH E lo wlo h H) {ids bs : List Nat} (hS' : SimH E' lo wlo h' H') (hle : LeN h.length N E E') (hh : h.length ≤ h'.length) (hH : H.length ≤ H'.length)
 (hsame : ∀ b,b < H.length → H'[b]? = (Am.hide H bs)[b]?) (hids : ∀ i,i ∈ ids → (∃ o : Obj C.T,h[i]? = some (some o)) ∧ ∃ b,E.β i = some b ∧ b ∈ bs) (hbs : ∀ b,b ∈ bs → b < H.length ∧ ∀ cs,¬ E.Fr b cs) :
 SimH E' lo wlo (unhideS h h' ids) (Am.unhide H H' bs) := by
 have dead : ∀ b,b ∈ bs → b < H.length → H'[b]? = some none := by
  intro b hb hl
  rw [hsame b hl,hide_get,if_pos hb,if_pos hl]
 have live : ∀ (i : Nat) (o : Obj C.T),(unhideS h h' ids)[i]? = some (some o) → (i ∉ ids ∧ h'[i]? = some (some o)) ∨ (i ∈ ids ∧ h[i]? = some (some o)) := by
  intro i o hi
  rw [unhideS_get] at hi
  split at hi
  ·rename_i hm
   obtain ⟨⟨o',ho⟩,_⟩ := hids i hm
   split at hi
   ·right
    refine ⟨hm, ?_⟩
    rw [qi,ho] at hi
    simp only [Option.getD_some,qa] at hi
    rw [ho,hi]
   ·cases hi
  ·rename_i hn; exact .inl ⟨hn,hi⟩
 have notin : ∀ (i : Nat) (o : Obj C.T),h'[i]? = some (some o) → ∀ b,E'.β i = some b → b ∉ bs := by
  intro i o hi b hb hm
  have hbl := hS'.bnd i b hb
  have cell : ∃ blk,H'[b]? = some (some blk) := by
   cases o with
   | cells cs => obtain ⟨b',as,g1,_,g2,_⟩ := hS'.obj i _ hi; rw [hb] at g1; cases g1; exact ⟨_,g2⟩
   | mp es => obtain ⟨b',as,g1,_,g2,_⟩ := hS'.obj i _ hi; rw [hb] at g1; cases g1; exact ⟨_,g2⟩
   | it s pos => obtain ⟨b',g1,_,g2⟩ := hS'.obj i _ hi; rw [hb] at g1; cases g1; exact ⟨_,g2⟩
   | rows n l full root =>
    rcases hS'.obj i _ hi with ⟨_,g1,_⟩ | ⟨b',off,cap,ex,as,_,g1,_,g2,_⟩
    ·rw [hb] at g1; cases g1
    ·rw [hb] at g1; cases g1; exact ⟨_,g2⟩
  obtain ⟨blk,hc⟩ := cell
  rw [dead b hm (hbs b hm).1] at hc
  cases hc
 have old : ∀ i,i ∈ ids → i < h.length := fun i hi => by
  obtain ⟨⟨o,ho⟩,_⟩ := hids i hi
  exact lt_of_some ho
 have keep : ∀ b,b ∉ bs → (Am.unhide H H' bs)[b]? = H'[b]? := fun b hb => by rw [unhide_get,if_neg hb]
 have back : ∀ b,b ∈ bs → ∀ x,H[b]? = some x → (Am.unhide H H' bs)[b]? = H[b]? := fun b hb x hx => by
  rw [unhide_get,if_pos hb,if_pos (by have := lt_of_some hx; omega),qi,hx]
  rfl
 refine ⟨?_, ?_, ?_, ?_,hS'.low, ?_, ?_,hS'.βω,by rw [unhideS_len]; exact hS'.wl,by rw [unhide_len]; exact hS'.ll⟩
 ·intro i o hi
  rcases live i o hi with ⟨h1,h2⟩ | ⟨h1,h2⟩
  ·exact (hS'.obj i o h2).heap fun b hb => keep b (notin i o h2 b hb)
  ·have hi' := old i h1
   refine ObjOk.mono hle.le (fun hn => by rw [(hle.old i hi').1]; exact hn) ((hS.obj i o h2).heap fun b hb => ?_)
   obtain ⟨_,b',hb',hm⟩ := hids i h1
   rw [hb] at hb'
   cases hb'
   cases hx : H[b]? with
   | none => have := hS.bnd i b hb; rw [List.getElem?_eq_none_iff] at hx; omega
   | some x => rw [← hx]; exact back b hm x hx
 ·intro i i' o o' b hi hi' hb hb'
  rcases live i o hi with ⟨h1,h2⟩ | ⟨h1,h2⟩ <;> rcases live i' o' hi' with ⟨h3,h4⟩ | ⟨h3,h4⟩
  ·exact hS'.inj i i' o o' b h2 h4 hb hb'
  ·obtain ⟨_,b',hb1,hm⟩ := hids i' h3
   have e := (hle.old i' (old i' h3)).1
   rw [e,hb1] at hb'
   cases hb'
   exact (notin i o h2 b hb hm).elim
  ·obtain ⟨_,b',hb1,hm⟩ := hids i h1
   have e := (hle.old i (old i h1)).1
   rw [e,hb1] at hb
   cases hb
   exact (notin i' o' h4 b hb' hm).elim
  ·rw [(hle.old i (old i h1)).1] at hb
   rw [(hle.old i' (old i' h3)).1] at hb'
   exact hS.inj i i' o o' b h2 h4 hb hb'
 ·intro b cs hf
  have hf0 := hle.fr b cs hf
  have hnb : b ∉ bs := fun hm => (hbs b hm).2 cs hf0
  refine ⟨by rw [keep b hnb]; exact (hS'.fr b cs hf).1,fun i o hi => ?_⟩
  rcases live i o hi with ⟨h1,h2⟩ | ⟨h1,h2⟩
  ·exact (hS'.fr b cs hf).2 i o h2
  ·rw [(hle.old i (old i h1)).1]
   exact (hS.fr b cs hf0).2 i o h2
 ·intro i hi
  exact hS'.fresh i (by rw [unhideS_len] at hi; exact hi)
 ·intro i b hb
  rw [unhide_len]
  exact hS'.bnd i b hb
 ·intro b r hr
  rw [unhide_len]
  exact hS'.own b r hr
end Go.Sy

/- Operations whose order is open, over symbolic values: the region. Generic: over any program. -/
namespace Go.Sy
open Go.Am
set_option linter.unusedVariables false
set_option linter.unusedSimpArgs false
variable {C : Codec} {E : Env}
theorem callA_pure {S : AStat} {rec : ExecF} {lo : Nat} {f : FuncId} {args : List AVal} {H H' : Heap} {r : AVal} (hh : (S.hook f).isNone = true) (hp : S.pol f = .pure) (h : callA S rec lo f args H = some (r,H')) : H' = H := by
 unfold callA at h
 split at h
 ·rename_i hk hhk
  rw [hhk] at hh
  cases hh
 ·split at h
  ·cases h
  ·split at h
   ·cases h
   ·split at h
    ·cases h
    ·cases h
    ·split at h
     ·cases h
     ·rw [hp] at h
      simp only [finish,qd] at h
      obtain ⟨v',_,e⟩ := h
      simp only [qe] at e
      exact e.2.symm
theorem fresh_same {S : AStat} (hL : HookLow S) {lo : Nat} {ρ : List AVal} {ev : Operand → SV C.T} (hev : ∀ x,Er E (ev x) (evalA S ρ x)) {H H' : Heap} {op : Op} {v : AVal} {n : Nat} (hf : freshOp S ev op = true) (h : effA S (callA S (execA S n)) lo ρ H op = some (v,H')) :
 ∀ b,b < H.length → H'[b]? = H[b]? := by
 unfold freshOp at hf
 split at hf
 ·rename_i c
  obtain ⟨callee,args,ts⟩ := c
  simp only at hf
  split at hf
  ·rename_i f
   have key : ∀ g x y,evalA S ρ f = .fn (.func g) x y → ((S.hook g).isNone && (S.pol g == .pure || S.pol g == .fresh)) = true → ∀ b,b < H.length → H'[b]? = H[b]? := by
    intro g x y e hc
    rw [qj,Bool.or_eq_true,beq_iff_eq,beq_iff_eq] at hc
    simp only [effA,e] at h
    split at h
    ·simp only [qa,qe] at h
     obtain ⟨_,rfl⟩ := h
     exact fun _ _ => rfl
    ·rcases hc.2 with hp | hp
     ·rw [callA_pure hc.1 hp h]
      exact fun _ _ => rfl
     ·exact (callA_fresh (execA_low hL n) hc.1 hp h).2
   have hx := hev f
   split at hf
   ·rename_i g x y e
    rw [e] at hx
    generalize hv : evalA S ρ f = w at hx
    cases hx
    exact key g x y hv hf
   ·rename_i g x y e
    rw [e] at hx
    generalize hv : evalA S ρ f = w at hx
    cases hx
    exact key g _ _ hv hf
   ·cases hf
  ·cases hf
 ·cases hf
theorem drawGoX_ok {F : Cf C} (hC : CodecOk C) (hX : ExtNo F.S F.noExt) (hL : HookLow F.S) {call : CallX C} (hcall : CallOkX F.S call) {lo wlo n0 : Nat} (hlo : lo ≤ n0) {ops : Array Oper} {B : List Nat} {K : SR C → SH C → Tree} :
 ∀ {l : List Oper} {k : Nat} {E : Env} {r : SR C} {ρ : List AVal} {h : SH C} {H : Heap} {news : List (Nat × Nat)} {rd : RdS} {tc : TcS} {rA : List (Nat × Nat)} {tA : List (Nat × Option (List Nat))},l = ops.toList.drop k → SimR E r ρ → SimH E lo wlo h H → n0 ≤ H.length → Pos E n0 ops k news h H → RdOk E rA rd → TcOk E tA tc →
 (drawGoX F call wlo ops B l k r h news rd tc K).holds →
 ∃ n x E' r' h',drawGo F.S (callA F.S (execA F.S n)) lo n0 ops B l k ρ H = some x ∧ (∀ p,p ∈ rA ∨ p ∈ x.reads → ∀ q,q ∈ tA ∨ q ∈ x.touches → apart1 B p q = true) ∧ LeN h.length n0 E E' ∧ h.length ≤ h'.length ∧ SimR E' r' x.ρ ∧ SimH E' lo wlo h' x.H ∧ H.length ≤ x.H.length ∧ (K r' h').holds
 | [],k,E,r,ρ,h,H,news,rd,tc,rA,tA,hl,hR,hS,hn0,hP,hrd,htc,hh => by
  unfold drawGoX at hh
  have key : (K r h).holds ∧ ∀ x,x ∈ rd → ∀ t,t ∈ tc → PairOk B x t := by
   cases ha : apartS B rd tc with
   | false =>
    rw [ha] at hh
    obtain ⟨h1,h2⟩ := apartN_ok hh
    exact ⟨h1,fun x hx t ht => h2 (x,t) (pairsS_mem hx ht)⟩
   | true =>
    rw [ha] at hh
    exact ⟨hh,apartS_pair ha⟩
  refine ⟨0,⟨[],[],ρ,H⟩,E,r,h,rfl, ?_,LeN.refl _ _,qf _,hR,hS,qf _,key.1⟩
  intro p hp q hq
  simp only [List.not_mem_nil,or_false] at hp hq
  exact apartS_ok hS hrd htc key.2 p hp q hq
 | o :: l,k,E,r,ρ,h,H,news,rd,tc,rA,tA,hl,hR,hS,hn0,hP,hrd,htc,hh => by
  have hok : ops[k]? = some o := by
   have : (ops.toList.drop k)[0]? = some o := by rw [← hl]; rfl
   rw [qw] at this
   simpa using this
  have hl' : l = ops.toList.drop (k + 1) := by rw [← List.drop_drop,← hl]; rfl
  have pos' : ∀ {E' : Env} {h' : SH C} {H' : Heap},LeN h.length n0 E E' → h.length ≤ h'.length → H.length ≤ H'.length → (∀ j,newAt ops j = true → E.ω (n0 + j) = none → E'.ω (n0 + j) = none) → (∀ j,k + 1 ≤ j → newAt ops j = true → H'[n0 + j]? = some none) → Pos E' n0 ops (k + 1) news h' H' := by
   intro E' h' H' hle hhl hHl hω hw
   refine ⟨fun j hj => qu (hP.len j hj) hHl,fun j hj => ?_,fun j hk hj => ⟨hw j hk hj,hω j hj (hP.will j (by omega) hj).2⟩,fun j id hm => ?_,fun b cs hf => hP.fr b cs (hle.fr b cs hf)⟩
   ·rcases hP.was j hj with ⟨id,h1,h2⟩ | h1
    ·exact .inl ⟨id,h1,hle.le.β _ _ h2⟩
    ·exact .inr (hω j hj h1)
   ·obtain ⟨h1,h2,h3⟩ := hP.ids j id hm
    exact ⟨hle.le.β _ _ h1,by omega,h3⟩
  unfold drawGoX at hh
  rcases guardX_ok hR hh with ⟨hg,r1,hR1,h1⟩ | ⟨hg,r1,hR1,h1⟩
  ·cases hn : isNewB o.op with
   | true =>
    rw [hn] at h1
    simp only [cond_true] at h1
    have hat : newAt ops k = true := by simp only [newAt,hok,hn]
    obtain ⟨hnone,hωk⟩ := hP.will k (qf _) hat
    have hlen := hP.len k hat
    obtain ⟨blk,mkA,ob,mk,e1,e2,e3⟩ := newX_ok hC hR1.ev h1
    have hset : ∀ b,b ≠ n0 + k → (H.set (n0 + k) (some blk))[b]? = H[b]? := fun b hb => by rw [qh,if_neg (fun e => hb e.symm)]
    have hat2 : (H.set (n0 + k) (some blk))[n0 + k]? = some (some blk) := by rw [qh,if_pos rfl,if_pos hlen]
    have hp := hS.push n0 (H' := H.set (n0 + k) (some blk)) (ob h.length) (mkA (n0 + k)) (n0 + k) (by simpa using hlen) (by omega) (by omega) (.inr ⟨hnone,hωk⟩) (by simp) (fun b _ hb => hset b hb)
     (fun hle => (e3 _ _ h.length (n0 + k) hle.le (by simp [Env.put]) (by simp [Env.put]) (by simp [Env.put]) hat2).1)
    have her := (e3 _ _ h.length (n0 + k) hp.1.le (by simp [Env.put]) (by simp [Env.put]) (by simp [Env.put]) hat2).2
    have hP' : Pos (E.put h.length (some (n0 + k)) (mkA (n0 + k)) h.length) n0 ops (k + 1) ((k,h.length) :: news) (h ++ [some (ob h.length)]) (H.set (n0 + k) (some blk)) := by
     refine ⟨fun j hj => by simpa using hP.len j hj,fun j hj => ?_,fun j hk hj => ?_,fun j id hm => ?_,hP.fr⟩
     ·by_cases hjk : j = k
      ·subst hjk
       exact .inl ⟨h.length,by simp,by simp [Env.put]⟩
      ·rcases hP.was j hj with ⟨id,h1,h2⟩ | h1
       ·exact .inl ⟨id,by simp [h1],hp.1.le.β _ _ h2⟩
       ·right
        simp only [Env.put]
        rw [if_neg (by simp; omega)]
        exact h1
     ·obtain ⟨h1,h2⟩ := hP.will j (by omega) hj
      refine ⟨by rw [hset _ (by omega)]; exact h1, ?_⟩
      simp only [Env.put]
      rw [if_neg (by simp; omega)]
      exact h2
     ·rcases List.mem_cons.1 hm with e | hm
      ·cases e
       exact ⟨by simp [Env.put],by simp,hat⟩
      ·obtain ⟨h1,h2,h3⟩ := hP.ids j id hm
       exact ⟨hp.1.le.β _ _ h1,by simp; omega,h3⟩
    obtain ⟨n,x,E',r',h',k1,k2,k3,k4,k5,k6,k7,k8⟩ := drawGoX_ok hC hX hL hcall hlo hl' ((hR1.mono hp.1.le).put her) hp.2 (by simpa using hn0) hP' (hrd.mono hp.1.le) (htc.mono hp.1.le) e2
    refine ⟨n,x,E',r',h', ?_,k2,hp.1.trans (by simp) (qf _) k3,by simp at k4; omega,k5,k6,by simpa using k7,k8⟩
    unfold drawGo
    simp only [hg,hn,if_true,e1,hnone]
    exact k1
   | false =>
    rw [hn] at h1
    simp only [cond_false] at h1
    cases he : isEffB o.op with
    | false =>
     rw [he] at h1
     simp only [cond_false] at h1
     obtain ⟨v,H1,sv,h1',E1,⟨e1,rfl⟩,e2,e3,e4,e5,e6,e7⟩ := quietX_ok hC hR1.ev hS h1
     have e2' : LeN h.length n0 E E1 := ⟨e2.le,e2.old,e2.fr,fun b r hb => (e2.own b r hb).imp_right fun h => by omega⟩
     have hω : ∀ j,newAt ops j = true → E.ω (n0 + j) = none → E1.ω (n0 + j) = none := by
      intro j hj h0
      cases hw : E1.ω (n0 + j) with
      | none => rfl
      | some q =>
       rcases e2.own _ _ hw with h2 | h2
       ·rw [h0] at h2; cases h2
       ·have := hP.len j hj; omega
     have hP' : Pos E1 n0 ops (k + 1) news h1' H1 := pos' e2' e3 e5 hω (fun j hk hj => (hP.will j (by omega) hj).1)
     have hread := fun b hb => readX_ok (S := F.S) hR1.ev hS h1 (b := b) hb
     cases hra : readsA F.S ρ o.op with
     | none =>
      have hrd' : RdOk E1 rA (match readX h (sEval F.S r1.get) o.op with | some q => (k,q) :: rd | none => rd) := by
       intro i b hb
       obtain ⟨q,g1,g2⟩ := (hrd.mono e2.le) i b hb
       exact ⟨q,by split <;> simp [g1],g2⟩
      obtain ⟨n,x,E',r',h',k1,k2,k3,k4,k5,k6,k7,k8⟩ := drawGoX_ok hC hX hL hcall hlo hl' ((hR1.mono e2.le).put e6) e4 hn0 hP' hrd' (htc.mono e2.le) e7
      refine ⟨n,x,E',r',h', ?_,k2,e2'.trans e3 (qf _) k3,Nat.le_trans e3 k4,k5,k6,k7,k8⟩
      unfold drawGo
      simp only [hg,hn,Bool.false_eq_true,if_false,he,e1,k1,hra]
     | some b =>
      obtain ⟨q,g1,g2⟩ := hread b hra
      have hrd' : RdOk E1 ((k,b) :: rA) (match readX h (sEval F.S r1.get) o.op with | some q => (k,q) :: rd | none => rd) := by
       rw [g1]
       intro i b' hb
       rcases List.mem_cons.1 hb with e | hb
       ·cases e
        exact ⟨q,by simp,g2.mono e2.le⟩
       ·obtain ⟨q',g4,g5⟩ := (hrd.mono e2.le) i b' hb
        exact ⟨q',by simp [g4],g5⟩
      obtain ⟨n,x,E',r',h',k1,k2,k3,k4,k5,k6,k7,k8⟩ := drawGoX_ok hC hX hL hcall hlo hl' ((hR1.mono e2.le).put e6) e4 hn0 hP' hrd' (htc.mono e2.le) e7
      refine ⟨n,{ x with reads := (k,b) :: x.reads },E',r',h', ?_, ?_,e2'.trans e3 (qf _) k3,Nat.le_trans e3 k4,k5,k6,k7,k8⟩
      ·unfold drawGo
       simp only [hg,hn,Bool.false_eq_true,if_false,he,e1,k1,hra]
      ·intro p hp q hq
       refine k2 p ?_ q hq
       rcases hp with hp | hp
       ·exact .inl (by simp [hp])
       ·rcases List.mem_cons.1 hp with hp | hp
        ·exact .inl (by simp [hp])
        ·exact .inr hp
    | true =>
     rw [he] at h1
     simp only [cond_true] at h1
     have htouch : ∀ (op : Op),o.op = op → ∀ {hx : SH C} {K' : SV C.T → SH C → Tree},(effX F.S F.noExt call wlo (sEval F.S r1.get) hx op K').holds → (∀ id ob,hget hx id = some ob → hget h id = some ob) → ∀ ids other,touchX F.S h (sEval F.S r1.get) op = some (ids,other) → ∃ l,touchA F.S ρ op = some l ∧ ∀ b,b ∈ l → (∃ root,root ∈ ids ∧ E.ω b = some root) ∨ (other = true ∧ ∃ cs,E.Fr b cs) := by
      intro op hop hx K' hK hsub ids other ht
      refine touchX_ok hR1.ev hS ht ?_ ?_ ?_
      ·rintro t x v rfl
       simp only [effX] at hK
       obtain ⟨id,g⟩ := storeX_live hK
       refine ⟨id, ?_⟩
       rcases g with ⟨off,g1,cs,g2⟩ | ⟨i,off,g1,n,ll,full,root,g2,g3⟩
       ·exact .inl ⟨off,g1,cs,hsub _ _ g2⟩
       ·exact .inr ⟨i,off,g1,n,ll,full,root,hsub _ _ g2,g3⟩
      ·rintro t m x v rfl
       simp only [effX] at hK
       obtain ⟨id,es,g1,g2⟩ := mapUpdX_live hK
       exact ⟨id,es,g1,hsub _ _ g2⟩
      ·rintro c x sz id off len cap ex rfl hc h0 hx0
       simp only [effX,hc] at hK
       split at hK
       ·rename_i s x' t u q1 q2
        have hs : s = .sl sz id off len cap ex := by
         cases hargs : c.args.toList with
         | nil => rw [hargs] at q1; simp at q1
         | cons a0 rest =>
          rw [hargs] at q1
          simp only [List.map_cons,List.cons.injEq] at q1
          have : c.args[0]? = some a0 := by
           have : c.args.toList[0]? = some a0 := by rw [hargs]; rfl
           simpa using this
          rw [this] at h0
          cases h0
          rw [← q1.1,hx0]
        rw [hs] at hK
        obtain ⟨cs,g⟩ := appendX_live hK
        exact ⟨cs,hsub _ _ g⟩
       ·exact qa1 hK
     cases hnh : noHid ops B k || (bltB o.op && noHid2 ops B k) with
     | true =>
      rw [hnh] at h1
      simp only [cond_true] at h1
      obtain ⟨v,H1,sv,h1',E1,⟨n1,e1⟩,e2,e3,e4,e5,e6,e7⟩ := effX_ok hC hX hcall hR1.ev hS h1
      have e2' : LeN h.length n0 E E1 := ⟨e2.le,e2.old,e2.fr,fun b r hb => (e2.own b r hb).imp_right fun h => by omega⟩
      have hω : ∀ j,newAt ops j = true → E.ω (n0 + j) = none → E1.ω (n0 + j) = none := by
       intro j hj h0
       cases hw : E1.ω (n0 + j) with
       | none => rfl
       | some q =>
        rcases e2.own _ _ hw with h2 | h2
        ·rw [h0] at h2; cases h2
        ·have := hP.len j hj; omega
      have hhid : (∀ b,b ∈ hidden ops B n0 k → H[b]? = some none ∧ H1[b]? = some none) ∧ ∀ j,k + 1 ≤ j → newAt ops j = true → H1[n0 + j]? = some none := by
       rw [Bool.or_eq_true,qj] at hnh
       rcases hnh with hnh | ⟨hb1,hb2⟩
       ·exact ⟨fun b hb => by rw [hidden_nil hnh] at hb; simp at hb,fun j hk hj => by have := noHid_lt hnh hj; omega⟩
       ·exact ⟨fun b hb => ⟨hidden2_none hP hb2 b hb,eff_none e1 hb1 b (hidden2_none hP hb2 b hb)⟩,fun j hk hj => eff_none e1 hb1 _ (hP.will j (by omega) hj).1⟩
      have hhide := hide_same fun b hb => (hhid.1 b hb).1
      have hunhide := unhide_same hhid.1
      have hP' : Pos E1 n0 ops (k + 1) news h1' H1 := pos' e2' e3 e5 hω hhid.2
      have htc' : TcOk E1 ((k,touchD F.S ρ o.op H H1) :: tA) ((k,tkX F.S h h1' (sEval F.S r1.get) o.op) :: tc) := by
       intro i oo ho
       rcases List.mem_cons.1 ho with e | ho
       ·cases e
        refine ⟨_,List.mem_cons_self,tkX_ok hS e4 e2 fun ids other e => ?_⟩
        obtain ⟨ll,g1,g2⟩ := htouch o.op rfl h1 (fun _ _ h => h) ids other e
        exact ⟨ll,g1,fun b hb => (g2 b hb).imp (fun ⟨root,p,q⟩ => ⟨root,p,e2.le.ω _ _ q⟩) (fun ⟨p,cs,q⟩ => ⟨p,cs,e2.le.Fr _ _ q⟩)⟩
       ·obtain ⟨s,g1,g2⟩ := (htc.mono e2.le) i oo ho
        exact ⟨s,by simp [g1],g2⟩
      obtain ⟨n,x,E',r',h',k1,k2,k3,k4,k5,k6,k7,k8⟩ := drawGoX_ok hC hX hL hcall hlo hl' ((hR1.mono e2.le).put e6) e4 (by omega) hP' (hrd.mono e2.le) htc' e7
      refine ⟨max n1 n,{ x with touches := (k,touchD F.S ρ o.op H H1) :: x.touches },E',r',h', ?_, ?_,e2'.trans e3 (qf _) k3,Nat.le_trans e3 k4,k5,k6,Nat.le_trans e5 k7,k8⟩
      ·unfold drawGo
       simp only [hg,hn,Bool.false_eq_true,if_false,he,if_true,hhide]
       rw [effA_mono (callA_mono (execA_mono (Nat.le_max_left n1 n))) e1]
       simp only [hunhide]
       rw [if_pos e5,drawGo_mono (callA_mono (execA_mono (Nat.le_max_right n1 n))) k1]
      ·intro p hp q hq
       refine k2 p hp q ?_
       rcases hq with hq | hq
       ·exact .inl (by simp [hq])
       ·rcases List.mem_cons.1 hq with hq | hq
        ·exact .inl (by simp [hq])
        ·exact .inr hq
     | false =>
      rw [hnh] at h1
      simp only [cond_false] at h1
      cases hf : freshOp F.S (sEval F.S r1.get) o.op && ((hidIds B k news).all fun id => (hget h id).isSome) with
      | false => rw [hf] at h1; exact qa1 h1
      | true =>
       rw [hf] at h1
       simp only [cond_true] at h1
       rw [qj] at hf
       obtain ⟨hfr,hlive⟩ := hf
       -- what is hidden
       have hbsl : ∀ b,b ∈ hidden ops B n0 k → b < H.length ∧ ∀ cs,¬ E.Fr b cs := by
        intro b hb
        obtain ⟨j,rfl,h2,h3⟩ := mem_hidden.1 hb
        exact ⟨hP.len j h2,fun cs hcs => by have := hP.fr _ cs hcs; omega⟩
       have hlive' : ∀ i,i ∈ hidIds B k news → ∃ o : Obj C.T,h[i]? = some (some o) := by
        intro i hi
        have := List.all_eq_true.1 hlive i hi
        obtain ⟨o,ho⟩ := Option.isSome_iff_exists.1 this
        exact ⟨o,hget_some ho⟩
       have hnews : ∀ i,i ∈ hidIds B k news → ∃ j,(j,i) ∈ news ∧ (B.getD k 0).testBit j = false := by
        intro i hi
        simp only [hidIds,List.mem_map,List.mem_filter,Bool.not_eq_true'] at hi
        obtain ⟨⟨j,i'⟩,⟨h2,h3⟩,rfl⟩ := hi
        exact ⟨j,h2,h3⟩
       have hids : ∀ i,i ∈ hidIds B k news → (∃ o : Obj C.T,h[i]? = some (some o)) ∧ ∃ b,E.β i = some b ∧ b ∈ hidden ops B n0 k := by
        intro i hi
        obtain ⟨j,h2,h3⟩ := hnews i hi
        obtain ⟨h4,h5,h6⟩ := hP.ids j i h2
        exact ⟨hlive' i hi,_,h4,mem_hidden.2 ⟨j,rfl,h6,h3⟩⟩
       have hSh := hS.hide (hidIds B k news) (hidden ops B n0 k) (by
        intro b hb
        refine ⟨(hbsl b hb).2,fun i o hio hβ => ?_⟩
        obtain ⟨j,rfl,h2,h3⟩ := mem_hidden.1 hb
        rcases hP.was j h2 with ⟨id,g1,g2⟩ | g1
        ·have hm : id ∈ hidIds B k news := by
          simp only [hidIds,List.mem_map,List.mem_filter,Bool.not_eq_true']
          exact ⟨(j,id),⟨g1,h3⟩,rfl⟩
         obtain ⟨o',ho'⟩ := hlive' id hm
         have := hS.inj i id o o' _ hio ho' hβ g2
         subst this
         exact hm
        ·obtain ⟨rr,g2⟩ := hS.βω i _ hβ
         rw [g1] at g2
         cases g2)
       obtain ⟨v,H1,sv,h1',E1,⟨n1,e1⟩,e2,e3,e4,e5,e6,e7⟩ := effX_ok hC hX hcall hR1.ev hSh h1
       have hsame := fresh_same hL hR1.ev hfr e1
       rw [hideS_len,hide_len] at e2
       rw [hideS_len] at e3
       rw [hide_len] at e5 hsame
       have hSu := hS.unhide e4 e2 e3 e5 hsame hids hbsl
       have e2' : LeN h.length n0 E E1 := ⟨e2.le,e2.old,e2.fr,fun b r hb => (e2.own b r hb).imp_right fun h => by omega⟩
       have hω : ∀ j,newAt ops j = true → E.ω (n0 + j) = none → E1.ω (n0 + j) = none := by
        intro j hj h0
        cases hw : E1.ω (n0 + j) with
        | none => rfl
        | some q =>
         rcases e2.own _ _ hw with h2 | h2
         ·rw [h0] at h2; cases h2
         ·have := hP.len j hj; omega
       have hP' : Pos E1 n0 ops (k + 1) news (unhideS h h1' (hidIds B k news)) (Am.unhide H H1 (hidden ops B n0 k)) := pos' e2' (by rw [unhideS_len]; exact e3) (by rw [unhide_len]; exact e5) hω (fun j hk hj => by
        have hw := (hP.will j (by omega) hj).1
        have hlt := hP.len j hj
        rw [unhide_get]
        split
        ·rw [if_pos (by omega),qi,hw]
         rfl
        ·rename_i hnm
         rw [hsame _ hlt,hide_get,if_neg hnm]
         exact hw)
       have htc' : TcOk E1 ((k,touchD F.S ρ o.op (Am.hide H (hidden ops B n0 k)) H1) :: tA) ((k,tk0 (touchX F.S h (sEval F.S r1.get) o.op)) :: tc) := by
        intro i oo ho
        rcases List.mem_cons.1 ho with e | ho
        ·cases e
         refine ⟨_,List.mem_cons_self,tk0_ok fun ids other e => ?_⟩
         obtain ⟨ll,g1,g2⟩ := htouch o.op rfl h1 (fun id ob hg => by
          have := hget_some hg
          rw [hideS_get] at this
          split at this
          ·split at this <;> cases this
          ·simp only [hget,this]) ids other e
         exact ⟨ll,g1,fun b hb => (g2 b hb).imp (fun ⟨root,p,q⟩ => ⟨root,p,e2.le.ω _ _ q⟩) (fun ⟨p,cs,q⟩ => ⟨p,cs,e2.le.Fr _ _ q⟩)⟩
        ·obtain ⟨s,g1,g2⟩ := (htc.mono e2.le) i oo ho
         exact ⟨s,by simp [g1],g2⟩
       obtain ⟨n,x,E',r',h',k1,k2,k3,k4,k5,k6,k7,k8⟩ := drawGoX_ok hC hX hL hcall hlo hl' ((hR1.mono e2.le).put e6) hSu (by rw [unhide_len]; omega) hP' (hrd.mono e2.le) htc' e7
       rw [unhideS_len] at k3 k4
       rw [unhide_len] at k7
       refine ⟨max n1 n,{ x with touches := (k,touchD F.S ρ o.op (Am.hide H (hidden ops B n0 k)) H1) :: x.touches },E',r',h', ?_, ?_,e2'.trans e3 (qf _) k3,Nat.le_trans e3 k4,k5,k6,Nat.le_trans e5 k7,k8⟩
       ·unfold drawGo
        simp only [hg,hn,Bool.false_eq_true,if_false,he,if_true]
        rw [effA_mono (callA_mono (execA_mono (Nat.le_max_left n1 n))) e1]
        simp only
        rw [if_pos e5,drawGo_mono (callA_mono (execA_mono (Nat.le_max_right n1 n))) k1]
       ·intro p hp q hq
        refine k2 p hp q ?_
        rcases hq with hq | hq
        ·exact .inl (by simp [hq])
        ·rcases List.mem_cons.1 hq with hq | hq
         ·exact .inl (by simp [hq])
         ·exact .inr hq
  ·have hP' : Pos E n0 ops (k + 1) news h H := pos' (LeN.refl _ _) (qf _) (qf _) (fun _ _ h => h) (fun j hk hj => (hP.will j (by omega) hj).1)
   obtain ⟨n,x,E',r',h',k1,k2,k3,k4,k5,k6,k7,k8⟩ := drawGoX_ok hC hX hL hcall hlo hl' (hR1.put (.a undefA)) hS hn0 hP' hrd htc h1
   refine ⟨n,x,E',r',h', ?_,k2,k3,k4,k5,k6,k7,k8⟩
   unfold drawGo
   simp only [hg]
   exact k1
theorem drawX_ok {F : Cf C} (hC : CodecOk C) (hX : ExtNo F.S F.noExt) (hL : HookLow F.S) {call : CallX C} (hcall : CallOkX F.S call) {lo wlo : Nat} {ops : Array Oper} {K : SR C → SH C → Tree} {r : SR C} {ρ : List AVal} {h : SH C} {H : Heap} (hR : SimR E r ρ) (hS : SimH E lo wlo h H)
 (hh : (drawX F call wlo ops r h K).holds) : Go2 E lo wlo h H (fun ρ' H' => ∃ n,drawA F.S (callA F.S (execA F.S n)) lo ops ρ H = some (ρ',H')) K := by
 unfold drawX at hh
 cases hreg : regionOk ops (befs ops.toList []) with
 | false => rw [hreg] at hh; exact qa1 hh
 | true =>
  rw [hreg] at hh
  simp only [cond_true] at hh
  have hfrlt : ∀ b cs,E.Fr b cs → b < H.length := fun b cs hf => lt_of_some (hS.fr b cs hf).1
  have hnew : ∀ j,newAt ops j = true → ops.any (fun o => isNewB o.op) = true ∧ j < ops.size := by
   intro j hj
   unfold newAt at hj
   split at hj
   ·rename_i o ho
    have hlt : j < ops.size := by
     rcases qm j ops.size with h1 | h1
     ·exact h1
     ·rw [Array.getElem?_eq_none h1] at ho; cases ho
    refine ⟨?_,hlt⟩
    rw [Array.any_eq_true]
    refine ⟨j,hlt, ?_⟩
    rw [Array.getElem?_eq_getElem hlt] at ho
    simp only [qa] at ho
    rw [ho]
    exact hj
   ·cases hj
  have ext : SimH E lo wlo h (H ++ List.replicate ops.size none) := by
   refine ⟨fun i o hi => (hS.obj i o hi).heap fun b hb => qg (hS.bnd i b hb),hS.inj,fun b cs hf => ⟨by rw [qg (hfrlt b cs hf)]; exact (hS.fr b cs hf).1,(hS.fr b cs hf).2⟩,hS.fresh,hS.low,fun i b hb => ?_,fun b r hr => ?_,hS.βω,hS.wl, ?_⟩
   ·have := hS.bnd i b hb; simp; omega
   ·have := hS.own b r hr; exact ⟨by simp; omega,this.2⟩
   ·have := hS.ll; simp; omega
  have hω : ∀ j,E.ω (H.length + j) = none := by
   intro j
   cases hw : E.ω (H.length + j) with
   | none => rfl
   | some r => have := (hS.own _ _ hw).1; omega
  obtain ⟨n,x,E',r',h',k1,k2,k3,k4,k5,k6,k7,k8⟩ : ∃ n x E' r' h',drawGo F.S (callA F.S (execA F.S n)) lo H.length ops (befs ops.toList []) ops.toList 0 ρ (if ops.any (fun o => isNewB o.op) then H ++ List.replicate ops.size none else H) = some x ∧ (∀ p,p ∈ ([] : List (Nat × Nat)) ∨ p ∈ x.reads → ∀ q,q ∈ ([] : List (Nat × Option (List Nat))) ∨ q ∈ x.touches → apart1 (befs ops.toList []) p q = true) ∧ LeN h.length H.length E E' ∧ h.length ≤ h'.length ∧ SimR E' r' x.ρ ∧ SimH E' lo wlo h' x.H ∧ H.length ≤ x.H.length ∧ (K r' h').holds := by
   by_cases hany : ops.any (fun o => isNewB o.op) = true
   ·rw [if_pos hany]
    obtain ⟨n,x,E',r',h',k1,k2,k3,k4,k5,k6,k7,k8⟩ := drawGoX_ok (rA := []) (tA := []) hC hX hL hcall hS.ll (l := ops.toList) (k := 0) (by simp) hR ext (by simp) (by
     refine ⟨fun j hj => ?_,fun j hj => .inr (hω j),fun j _ hj => ⟨?_,hω j⟩,fun j id hm => by simp at hm,hfrlt⟩
     ·have := (hnew j hj).2; simp; omega
     ·have := (hnew j hj).2
      rw [qk (by omega),List.getElem?_replicate,if_pos (by omega)]) (fun i b hb => by simp at hb) (fun i o ho => by simp at ho) hh
    exact ⟨n,x,E',r',h',k1,k2,k3,k4,k5,k6,by simp at k7; omega,k8⟩
   ·rw [if_neg hany]
    obtain ⟨n,x,E',r',h',k1,k2,k3,k4,k5,k6,k7,k8⟩ := drawGoX_ok (rA := []) (tA := []) hC hX hL hcall hS.ll (l := ops.toList) (k := 0) (by simp) hR hS (qf _) (by
     refine ⟨fun j hj => (hany (hnew j hj).1).elim,fun j hj => (hany (hnew j hj).1).elim,fun j _ hj => (hany (hnew j hj).1).elim,fun j id hm => by simp at hm,hfrlt⟩) (fun i b hb => by simp at hb) (fun i o ho => by simp at ho) hh
    exact ⟨n,x,E',r',h',k1,k2,k3,k4,k5,k6,k7,k8⟩
  refine ⟨x.ρ,x.H,r',h',E',⟨n, ?_⟩,k3,k4,k5,k6,k7,k8⟩
  unfold drawA
  simp only [hreg,Bool.true_and,decide_eq_true_eq]
  rw [if_pos hS.ll,k1]
  simp only
  rw [if_pos]
  unfold apartB
  rw [List.all_eq_true]
  intro p hp
  rw [List.all_eq_true]
  intro q hq
  exact k2 p (.inr hp) q (.inr hq)
end Go.Sy

/- A run of code over symbolic values, into calls, up to its cuts: it is sound. Generic: over any program. -/
namespace Go.Sy
open Go.Am
set_option linter.unusedVariables false
set_option linter.unusedSimpArgs false
variable {C : Codec} {E : Env}
inductive RunsK (S : AStat) (lo : Nat) : List Kt → List AVal → Heap → (AExit × List AVal × Heap) → Prop
 | nil {ρ : List AVal} {H : Heap} : RunsK S lo [] ρ H (.normal,ρ,H)
 | blk {id : Nat} {k : List Kt} {ρ : List AVal} {H : Heap} {r : AExit × List AVal × Heap} : RunsK S lo k ρ H r → RunsK S lo (.blk id :: k) ρ H r
 | lp {b : Code} {k : List Kt} {ρ : List AVal} {H : Heap} {r : AExit × List AVal × Heap} : RunsK S lo (.c (.loop b) :: k) ρ H r → RunsK S lo (.lp b :: k) ρ H r
 | c {x : Code} {k : List Kt} {ρ ρ' : List AVal} {H H' : Heap} {r : AExit × List AVal × Heap} : Runs S lo x ρ H (.normal,ρ',H') → RunsK S lo k ρ' H' r → RunsK S lo (.c x :: k) ρ H r
 | ret {x : Code} {k : List Kt} {ρ ρ' : List AVal} {H H' : Heap} : Runs S lo x ρ H (.ret,ρ',H') → RunsK S lo (.c x :: k) ρ H (.ret,ρ',H')
 | exit {x : Code} {k k' : List Kt} {i : Nat} {ρ ρ' : List AVal} {H H' : Heap} {r : AExit × List AVal × Heap} : Runs S lo x ρ H (.exit i,ρ',H') → unwind i k = some k' → RunsK S lo k' ρ' H' r → RunsK S lo (.c x :: k) ρ H r
section
variable {S : AStat} {lo : Nat}
theorem RunsK.seq {a b : Code} {k : List Kt} {ρ : List AVal} {H : Heap} {r : AExit × List AVal × Heap} (h : RunsK S lo (.c a :: .c b :: k) ρ H r) : RunsK S lo (.c (.seq a b) :: k) ρ H r := by
 cases h with
 | c h1 h2 =>
  cases h2 with
  | c h3 h4 => exact .c (h1.seq h3) h4
  | ret h3 => exact .ret (h1.seq h3)
  | exit h3 h4 h5 => exact .exit (h1.seq h3) h4 h5
 | ret h1 => exact .ret (Runs.seq_out (by simp) h1)
 | exit h1 h2 h3 => exact .exit (Runs.seq_out (by simp) h1) h2 h3
theorem RunsK.cond {x : Operand} {a b : Code} {k : List Kt} {ρ : List AVal} {H : Heap} {r : AExit × List AVal × Heap} {t : Bool} (hx : evalA S ρ x = .bool t) (h : RunsK S lo (.c (if t then a else b) :: k) ρ H r) : RunsK S lo (.c (.cond x a b) :: k) ρ H r := by
 cases h with
 | c h1 h2 => exact .c (Runs.cond hx h1) h2
 | ret h1 => exact .ret (Runs.cond hx h1)
 | exit h1 h2 h3 => exact .exit (Runs.cond hx h1) h2 h3
theorem RunsK.block {id : Nat} {b : Code} {k : List Kt} {ρ : List AVal} {H : Heap} {r : AExit × List AVal × Heap} (h : RunsK S lo (.c b :: .blk id :: k) ρ H r) : RunsK S lo (.c (.block id b) :: k) ρ H r := by
 cases h with
 | c h1 h2 =>
  cases h2 with
  | blk h3 => exact .c (Runs.block h1) h3
 | ret h1 => exact .ret (Runs.block h1)
 | exit h1 h2 h3 =>
  rename_i k' i ρ' H'
  simp only [unwind] at h2
  by_cases hi : i = id
  ·subst hi
   have : Nat.beq i i = true := by rw [Nat.beq_eq]
   rw [this] at h2
   simp only [cond_true,qa] at h2
   subst h2
   have := Runs.block (id := i) h1
   simp only [if_true] at this
   exact .c this h3
  ·have hb : Nat.beq i id = false := by rw [Bool.eq_false_iff]; intro e; rw [Nat.beq_eq] at e; exact hi e
   rw [hb] at h2
   have := Runs.block (id := id) h1
   simp only [if_neg hi] at this
   exact .exit this h2 h3
theorem RunsK.loop {b : Code} {k : List Kt} {ρ : List AVal} {H : Heap} {r : AExit × List AVal × Heap} (h : RunsK S lo (.c b :: .lp b :: k) ρ H r) : RunsK S lo (.c (.loop b) :: k) ρ H r := by
 cases h with
 | c h1 h2 =>
  cases h2 with
  | lp h3 =>
   cases h3 with
   | c h4 h5 => exact .c (Runs.loop_next h1 h4) h5
   | ret h4 => exact .ret (Runs.loop_next h1 h4)
   | exit h4 h5 h6 => exact .exit (Runs.loop_next h1 h4) h5 h6
 | ret h1 => exact .ret (Runs.loop_out (by simp) h1)
 | exit h1 h2 h3 => exact .exit (Runs.loop_out (by simp) h1) h2 h3
theorem Runs.mk (n : Nat) {c : Code} {ρ : List AVal} {H : Heap} {r : AExit × List AVal × Heap} (h : stepA S (execA S n) lo c ρ H = some r) : Runs S lo c ρ H r := ⟨n + 1,h⟩
theorem RunsK.out {b : Code} {ρ : List AVal} {H : Heap} {r : AExit × List AVal × Heap} (h : RunsK S lo [.c b] ρ H r) : Runs S lo b ρ H r ∧ ∀ i,r.1 ≠ .exit i := by
 cases h with
 | c h1 h2 =>
  cases h2
  exact ⟨h1,fun i e => by cases e⟩
 | ret h1 => exact ⟨h1,fun i e => by cases e⟩
 | exit h1 h2 => simp [unwind] at h2
end
def allK : Code → List Kt → List (Nat × List Kt)
 | .region id ops draw,k => [(id,.c (.region id ops draw) :: k)]
 | .seq a b,k => allK a (.c b :: k) ++ allK b k
 | .cond _ a b,k => allK a k ++ allK b k
 | .block id b,k => allK b (.blk id :: k)
 | .loop b,k => allK b (.lp b :: k)
 | _,_ => []
def SubK (all : List (Nat × List Kt)) : List Kt → Prop
 | [] => True
 | .c x :: k => (∀ y,y ∈ allK x k → y ∈ all) ∧ SubK all k
 | .lp b :: k => (∀ y,y ∈ allK b (.lp b :: k) → y ∈ all) ∧ SubK all k
 | .blk _ :: k => SubK all k
theorem SubK.unwind {all : List (Nat × List Kt)} {i : Nat} : ∀ {k k' : List Kt},SubK all k → unwind i k = some k' → SubK all k'
 | [],_,_,h => by cases h
 | .blk id :: k,k',hs,h => by
  simp only [Go.Sy.unwind] at h
  cases hb : Nat.beq i id with
  | true => rw [hb] at h; simp only [cond_true,qa] at h; subst h; exact hs
  | false => rw [hb] at h; exact SubK.unwind (k := k) hs h
 | .c x :: k,k',hs,h => SubK.unwind (k := k) hs.2 h
 | .lp b :: k,k',hs,h => SubK.unwind (k := k) hs.2 h
abbrev CutX (C : Codec) := Nat → Option (SR C → SH C → Tree)
abbrev FinX (C : Codec) := AExit → SR C → SH C → Tree
abbrev SymF (C : Codec) := CutX C → Nat → List Kt → SR C → SH C → FinX C → Tree
abbrev Ctr (C : Codec) := Nat → List (SV C.T) → SH C → (SV C.T → SH C → Tree) → Tree
noncomputable def regionX (F : Cf C) (call : CallX C) (wlo : Nat) (ops : Array Oper) (draw : Bool) (r : SR C) (h : SH C) (K : SR C → SH C → Tree) : Tree :=
 bif draw then (drawX F call wlo ops r h K) else opsX F call wlo ops.toList ops.toList r h K
noncomputable def refR (r : SR C) (x : Operand) (b : Bool) : SR C := match x with
 | .tmp d => r.set d (.a (.bool b))
 | _ => r
theorem refR_ok {S : AStat} {r : SR C} {ρ : List AVal} (hR : SimR E r ρ) {x : Operand} {b : Bool} (hx : evalA S ρ x = .bool b) : SimR E (refR r x b) ρ := by
 cases x with
 | tmp d =>
  refine hR.self ?_
  have hx : ρ.getD d undefA = .bool b := hx
  rw [hx]
  exact .a _
 | const v => exact hR
 | global g => exact hR
 | func f => exact hR
noncomputable def stepX (F : Cf C) (call : CallX C) (rec : SymF C) : SymF C := fun cut wlo k r h fin =>
 match k with
 | [] => fin .normal r h
 | .blk _ :: k => rec cut wlo k r h fin
 | .lp b :: k => rec cut wlo (.c (.loop b) :: k) r h fin
 | .c code :: k =>
  match code with
  | .skip => rec cut wlo k r h fin
  | .label _ => rec cut wlo k r h fin
  | .ret => fin .ret r h
  | .exit id => match unwind id k with
   | some k' => rec cut wlo k' r h fin
   | none => .stuck "exit"
  | .seq a b => rec cut wlo (.c a :: .c b :: k) r h fin
  | .cond x a b => match sEval F.S r.get x with
   | .a (.bool true) => rec cut wlo (.c a :: k) r h fin
   | .a (.bool false) => rec cut wlo (.c b :: k) r h fin
   | .b t => .fork t (rec cut wlo (.c a :: k) (refR r x true) h fin) (rec cut wlo (.c b :: k) (refR r x false) h fin)
   | _ => .stuck "cond"
  | .block id b => rec cut wlo (.c b :: .blk id :: k) r h fin
  | .loop b => rec cut wlo (.c b :: .lp b :: k) r h fin
  | .region id ops draw => match cut id with
   | some chk => chk r h
   | none => regionX F call wlo ops draw r h fun r' h' => rec cut wlo k r' h' fin
  | _ => .stuck "code"
noncomputable def resultsX (P : Program) (r : SR C) (h : SH C) : List ResultVar → (List (SV C.T) → Tree) → Tree
 | [],K => K []
 | .tmp t :: l,K => resultsX P r h l fun vs => K (r.get t :: vs)
 | .cell a t :: l,K => loadS P t h (r.get a) fun v => resultsX P r h l fun vs => K (v :: vs)
def tupledS {T : Nat → Type} : List (SV T) → SV T
 | [v] => v
 | vs => .tup vs
noncomputable def inlineX (F : Cf C) (rec : SymF C) : CallX C := fun wlo f args h K =>
 match F.S.hook f,F.S.P.funcs[f]? with
 | none,some fn => match fn.body with
  | some body => bif Nat.ble args.length fn.ntmps && Nat.ble fn.ntmps 512 then
   match F.S.pol f with
   | .keep => rec (fun _ => none) wlo [.c body] (SR.frame args fn.ntmps) h fun _ r h' => resultsX F.S.P r h' fn.results.toList fun vs => K (tupledS vs) h'
   | .fresh => rec (fun _ => none) h.length [.c body] (SR.frame args fn.ntmps) h fun _ r h' => resultsX F.S.P r h' fn.results.toList fun vs => K (tupledS vs) h'
   | .pure => .stuck "pure"
   else .stuck "frame"
  | none => .stuck "no body"
 | _,_ => .stuck "hook"
noncomputable def callX (F : Cf C) (ctr : FuncId → Option (Ctr C)) (rec : SymF C) : CallX C := fun wlo f args h K =>
 match ctr f with
 | some c => c wlo args h K
 | none => inlineX F rec wlo f args h K
noncomputable def symx (F : Cf C) (ctr : FuncId → Option (Ctr C)) (n : Nat) : SymF C := Nat.rec (fun _ _ _ _ _ _ => .stuck "fuel") (fun _ ih => stepX F (callX F ctr ih) ih) n
def CtrOk1 (S : AStat) (f : FuncId) (c : Ctr C) : Prop := ∀ (E : Env) (lo wlo : Nat) (args : List (SV C.T)) (h : SH C) (H : Heap) (K : SV C.T → SH C → Tree) (av : List AVal),(c wlo args h K).holds → SimH E lo wlo h H → Ers E args av →
 Out E lo wlo h H (fun v H' => ∃ n,callA S (execA S n) lo f av H = some (v,H')) K
def CtrOk (S : AStat) (ctr : FuncId → Option (Ctr C)) : Prop := ∀ f c,ctr f = some c → CtrOk1 S f c
theorem regionX_ok {F : Cf C} (hC : CodecOk C) (hX : ExtNo F.S F.noExt) (hL : HookLow F.S) {call : CallX C} (hcall : CallOkX F.S call) {lo wlo : Nat} {id : Nat} {ops : Array Oper} {draw : Bool} {K : SR C → SH C → Tree} {r : SR C} {ρ : List AVal} {h : SH C} {H : Heap} (hR : SimR E r ρ) (hS : SimH E lo wlo h H)
 (hh : (regionX F call wlo ops draw r h K).holds) : Go2 E lo wlo h H (fun ρ' H' => Runs F.S lo (.region id ops draw) ρ H (.normal,ρ',H')) K := by
 unfold regionX at hh
 cases draw with
 | true =>
  simp only [cond_true] at hh
  obtain ⟨ρ',H',r',h',E',⟨n,k1⟩,k2⟩ := drawX_ok hC hX hL hcall hR hS hh
  exact ⟨ρ',H',r',h',E',Runs.mk n (by simp only [stepA,if_true,k1,Option.map_some]),k2⟩
 | false =>
  obtain ⟨ρ',H',r',h',E',⟨n,k1⟩,k2⟩ := opsX_ok hC hX hcall hR hS hh
  exact ⟨ρ',H',r',h',E',Runs.mk n (by simp only [stepA,Bool.false_eq_true,if_false,k1,Option.map_some]),k2⟩
theorem fill_sim : ∀ {as : List (SV C.T)} {av ρ : List AVal} {i : Nat} {r : SR C},Ers E as av → SimR E r ρ → i + av.length ≤ ρ.length → SimR E (SR.fill as i r) (ρ.take i ++ av ++ ρ.drop (i + av.length))
 | [],av,ρ,i,r,hA,hR,hl => by
  rw [hA.inv_nil]
  simpa [SR.fill] using hR
 | x :: as,av,ρ,i,r,hA,hR,hl => by
  obtain ⟨a,av',rfl,h1,h2⟩ := hA.inv_cons
  simp only [qn] at hl
  have := fill_sim h2 (hR.set (d := i) h1) (by rw [qz]; omega) (i := i + 1)
  simp only [SR.fill]
  have e1 : (ρ.set i a).take (i + 1) = ρ.take i ++ [a] := by
   rw [List.take_set,List.take_succ_eq_append_getElem (by omega),List.set_append_right _ _ (by simp; omega)]
   simp
   rw [show i - min i ρ.length = 0 by omega]
   rfl
  have e2 : (ρ.set i a).drop (i + 1 + av'.length) = ρ.drop (i + (av'.length + 1)) := by
   rw [List.drop_set_of_lt (by omega)]
   congr 1
   omega
  rw [e1,e2] at this
  simpa using this
theorem frame_sim {as : List (SV C.T)} {av : List AVal} {n : Nat} (hA : Ers E as av) (hn : av.length ≤ n) (hs : n ≤ 512) : SimR E (SR.frame as n) (av ++ List.replicate (n - av.length) undefA) := by
 have h0 : SimR E (⟨Bt.full (.a undefA) 9,n⟩ : SR C) (List.replicate n undefA) := by
  refine ⟨full_full _ _,hs,by simp,fun j => ?_⟩
  have e1 : (SR.mk (Bt.full (.a undefA) 9) n : SR C).get j = .a undefA := by
   simp only [SR.get,get_full,Option.getD_some]
   cases Nat.blt j n <;> rfl
  have e2 : (List.replicate n undefA).getD j undefA = undefA := by
   rw [qi,List.getElem?_replicate]
   split <;> rfl
  rw [e1,e2]
  exact .a _
 have := fill_sim hA h0 (i := 0) (by simpa using hn)
 simpa [SR.frame] using this
theorem resultsX_ok {S : AStat} {lo wlo : Nat} (hC : CodecOk C) {r : SR C} {ρ : List AVal} {h : SH C} {H : Heap} (hR : SimR E r ρ) (hS : SimH E lo wlo h H) : ∀ {l : List ResultVar} {K : List (SV C.T) → Tree},(resultsX S.P r h l K).holds → ∃ vs as,resultsA S ρ H l = some as ∧ Ers E vs as ∧ (K vs).holds
 | [],K,hh => ⟨[],[],rfl,Ers.nil,hh⟩
 | .tmp t :: l,K,hh => by
  obtain ⟨vs,as,h1,h2,h3⟩ := resultsX_ok hC hR hS (l := l) hh
  exact ⟨_,_,by simp only [resultsA,resultA,h1],h2.cons (hR.val t),h3⟩
 | .cell a t :: l,K,hh => by
  simp only [resultsX] at hh
  obtain ⟨v,sv,e1,e2,e3⟩ := loadS_ok hC hS (hR.val a) hh
  obtain ⟨vs,as,h1,h2,h3⟩ := resultsX_ok hC hR hS (l := l) e3
  exact ⟨_,_,by simp only [resultsA,resultA,e1,h1],h2.cons e2,h3⟩
theorem tupled_er {vs : List (SV C.T)} {as : List AVal} (h : Ers E vs as) : Er E (tupledS vs) (tupled as) := by
 cases vs with
 | nil => rw [h.inv_nil]; exact .tup rfl (fun i x a h => by simp at h)
 | cons v vs =>
  obtain ⟨a,as',rfl,h1,h2⟩ := h.inv_cons
  cases vs with
  | nil => rw [h2.inv_nil]; exact h1
  | cons w ws =>
   obtain ⟨b,bs,rfl,h3,h4⟩ := h2.inv_cons
   exact .tup h.1 h.2
theorem SimH.raise {lo wlo : Nat} {h : SH C} {H : Heap} (hS : SimH E lo wlo h H) : SimH E (max lo H.length) h.length h H :=
 ⟨hS.obj,hS.inj,hS.fr,hS.fresh,(fun id b hi hb => by rw [(hS.fresh id hi).1] at hb; cases hb),hS.bnd,hS.own,hS.βω,qf _,by have := hS.ll; omega⟩
theorem SimH.lower {lo wlo N : Nat} {h h' : SH C} {H H' : Heap} {E' : Env} (hS : SimH E lo wlo h H) (hS' : SimH E' (max lo H.length) h.length h' H') (hle : LeN h.length N E E') (hh : h.length ≤ h'.length) (hH : H.length ≤ H'.length) : SimH E' lo wlo h' H' :=
 ⟨hS'.obj,hS'.inj,hS'.fr,hS'.fresh,(fun id b hi hb => by
  rcases qm id h.length with h1 | h1
  ·rw [(hle.old id h1).1] at hb
   exact hS.low id b hi hb
  ·have := hS'.low id b h1 hb
   omega),hS'.bnd,hS'.own,hS'.βω,by have := hS.wl; omega,by have := hS.ll; omega⟩
def SymOk (S : AStat) (n : Nat) (sx : SymF C) : Prop := ∀ (cut : CutX C) (wlo : Nat) (k : List Kt) (r : SR C) (h : SH C) (fin : FinX C) (E : Env) (lo : Nat) (ρ : List AVal) (H : Heap) (all : List (Nat × List Kt)) (Q : AExit → List AVal → Heap → Prop),
 (sx cut wlo k r h fin).holds → SimR E r ρ → SimH E lo wlo h H → SubK all k →
 (∀ x r' h' E' ρ' H',(fin x r' h').holds → SimR E' r' ρ' → SimH E' lo wlo h' H' → LeN h.length H.length E E' → h.length ≤ h'.length → H.length ≤ H'.length → Q x ρ' H') →
 (∀ id chk k' r' h' E' ρ' H',cut id = some chk → (id,k') ∈ all → SubK all k' → (chk r' h').holds → SimR E' r' ρ' → SimH E' lo wlo h' H' → LeN h.length H.length E E' → h.length ≤ h'.length → H.length ≤ H'.length → ∃ x ρ'' H'',RunsK S lo k' ρ' H' (x,ρ'',H'') ∧ Q x ρ'' H'') →
 ∃ x ρ' H',RunsK S lo k ρ H (x,ρ',H') ∧ Q x ρ' H'
theorem inlineX_ok {F : Cf C} (hC : CodecOk C) {n : Nat} {sx : SymF C} (hsx : SymOk F.S n sx) : CallOkX F.S (inlineX F sx) := by
 intro E lo wlo f args h H K av hh hS hA
 unfold inlineX at hh
 split at hh
 case h_2 => exact qa1 hh
 rename_i fn hk hf
 split at hh
 case h_2 => exact qa1 hh
 rename_i body hb
 cases hfr : (Nat.ble args.length fn.ntmps && Nat.ble fn.ntmps 512) with
 | false => rw [hfr] at hh; exact qa1 hh
 | true =>
  rw [hfr] at hh
  simp only [cond_true] at hh
  rw [qj,Nat.ble_eq,Nat.ble_eq] at hfr
  have hR := frame_sim hA (n := fn.ntmps) (by rw [← hA.1]; exact hfr.1) hfr.2
  have main : ∀ (lo' wlo' : Nat),SimH E lo' wlo' h H → (F.S.pol f).lo lo H = lo' → (∀ v H',finish (F.S.pol f) H v H' = some (v,H')) → (∀ (E' : Env) (h' : SH C) (H' : Heap),SimH E' lo' wlo' h' H' → LeN h.length H.length E E' → h.length ≤ h'.length → H.length ≤ H'.length → SimH E' lo wlo h' H') →
   (sx (fun _ => none) wlo' [.c body] (SR.frame args fn.ntmps) h fun _ r h' => resultsX F.S.P r h' fn.results.toList fun vs => K (tupledS vs) h').holds → Out E lo wlo h H (fun v H' => ∃ n,callA F.S (execA F.S n) lo f av H = some (v,H')) K := by
   intro lo' wlo' hS1 hlo hfin hback hx
   obtain ⟨x,ρ',H',hrun,r',h',E',k1,k2,k3,k4,k5,k6⟩ := hsx _ _ _ _ _ _ _ lo' _ _ (allK body []) (fun _ ρ' H' => ∃ r' h' E',(resultsX F.S.P r' h' fn.results.toList fun vs => K (tupledS vs) h').holds ∧ SimR E' r' ρ' ∧ SimH E' lo' wlo' h' H' ∧ LeN h.length H.length E E' ∧ h.length ≤ h'.length ∧ H.length ≤ H'.length) hx hR hS1
    ⟨fun y hy => hy,trivial⟩ (fun x r' h' E' ρ' H' q1 q2 q3 q4 q5 q6 => ⟨r',h',E',q1,q2,q3,q4,q5,q6⟩) (fun id chk k' r' h' E' ρ' H' q => by cases q)
   obtain ⟨hrun,hne⟩ := hrun.out
   obtain ⟨vs,as,e1,e2,e3⟩ := resultsX_ok (S := F.S) hC k2 k3 k1
   obtain ⟨m,hm⟩ := hrun
   refine ⟨tupled as,H',tupledS vs,h',E',⟨m, ?_⟩,k4,k5,hback _ _ _ k3 k4 k5 k6,k6,tupled_er e2,e3⟩
   simp only [callA,hk,hf,hb,hlo]
   rw [hm]
   cases x with
   | exit i => exact (hne i rfl).elim
   | normal => simp only [e1]; exact hfin _ _
   | ret => simp only [e1]; exact hfin _ _
  split at hh
  ·rename_i hp
   exact main lo wlo hS (by rw [hp]; rfl) (by rw [hp]; exact fun _ _ => rfl) (fun _ _ _ h _ _ _ => h) hh
  ·rename_i hp
   exact main (max lo H.length) h.length hS.raise (by rw [hp]; rfl) (by rw [hp]; exact fun _ _ => rfl) (fun E' h' H' h1 h2 h3 h4 => hS.lower h1 h2 h3 h4) hh
  ·exact qa1 hh
theorem callX_ok {F : Cf C} (hC : CodecOk C) {ctr : FuncId → Option (Ctr C)} (hctr : CtrOk F.S ctr) {n : Nat} {sx : SymF C} (hsx : SymOk F.S n sx) : CallOkX F.S (callX F ctr sx) := by
 intro E lo wlo f args h H K av hh hS hA
 unfold callX at hh
 split at hh
 ·rename_i c hc
  exact hctr f c hc E lo wlo args h H K av hh hS hA
 ·exact inlineX_ok hC hsx E lo wlo f args h H K av hh hS hA
theorem symx_ok {F : Cf C} (hC : CodecOk C) (hX : ExtNo F.S F.noExt) (hL : HookLow F.S) {ctr : FuncId → Option (Ctr C)} (hctr : CtrOk F.S ctr) : ∀ n,SymOk F.S n (symx F ctr n)
 | 0 => fun _ _ _ _ _ _ _ _ _ _ _ _ hh => (stuck_no hh).elim
 | n + 1 => by
  have ih := symx_ok hC hX hL hctr n
  have hcall := callX_ok hC hctr ih
  intro cut wlo k r h fin E lo ρ H all Q hh hR hS hK hfin hcut
  replace hh : (stepX F (callX F ctr (symx F ctr n)) (symx F ctr n) cut wlo k r h fin).holds := hh
  -- the same state, another stack
  have go : ∀ {k' : List Kt},(symx F ctr n cut wlo k' r h fin).holds → SubK all k' → ∃ x ρ' H',RunsK F.S lo k' ρ H (x,ρ',H') ∧ Q x ρ' H' := fun h1 h2 => ih _ _ _ _ _ _ _ _ _ _ _ _ h1 hR hS h2 hfin hcut
  have nil := hfin .normal r h E ρ H
  unfold stepX at hh
  split at hh
  ·exact ⟨_,_,_,.nil,hfin _ _ _ E _ _ hh hR hS (LeN.refl _ _) (qf _) (qf _)⟩
  ·obtain ⟨x,ρ',H',h1,h2⟩ := go hh hK
   exact ⟨x,ρ',H',.blk h1,h2⟩
  ·rename_i b k'
   obtain ⟨x,ρ',H',h1,h2⟩ := go hh ⟨fun y hy => hK.1 y hy,hK.2⟩
   exact ⟨x,ρ',H',.lp h1,h2⟩
  ·rename_i code k'
   split at hh
   ·obtain ⟨x,ρ',H',h1,h2⟩ := go hh hK.2
    exact ⟨x,ρ',H',.c (Runs.mk 0 rfl) h1,h2⟩
   ·obtain ⟨x,ρ',H',h1,h2⟩ := go hh hK.2
    exact ⟨x,ρ',H',.c (Runs.mk 0 rfl) h1,h2⟩
   ·exact ⟨_,_,_,.ret (Runs.mk 0 rfl),hfin _ _ _ E _ _ hh hR hS (LeN.refl _ _) (qf _) (qf _)⟩
   ·rename_i id
    split at hh
    ·rename_i k2 hu
     obtain ⟨x,ρ',H',h1,h2⟩ := go hh (hK.2.unwind hu)
     exact ⟨x,ρ',H',.exit (Runs.mk 0 rfl) hu h1,h2⟩
    ·exact qa1 hh
   ·rename_i a b
    obtain ⟨x,ρ',H',h1,h2⟩ := go hh ⟨fun y hy => hK.1 y (by simp only [allK,List.mem_append]; exact .inl hy),fun y hy => hK.1 y (by simp only [allK,List.mem_append]; exact .inr hy),hK.2⟩
    exact ⟨x,ρ',H',h1.seq,h2⟩
   ·rename_i x a b
    have hx := hR.ev (S := F.S) x
    have ka : SubK all (.c a :: k') := ⟨fun y hy => hK.1 y (by simp only [allK,List.mem_append]; exact .inl hy),hK.2⟩
    have kb : SubK all (.c b :: k') := ⟨fun y hy => hK.1 y (by simp only [allK,List.mem_append]; exact .inr hy),hK.2⟩
    split at hh
    ·rename_i e
     rw [e] at hx
     generalize hv : evalA F.S ρ x = v at hx
     cases hx
     obtain ⟨x,ρ',H',h1,h2⟩ := go hh ka
     exact ⟨x,ρ',H',RunsK.cond hv h1,h2⟩
    ·rename_i e
     rw [e] at hx
     generalize hv : evalA F.S ρ x = v at hx
     cases hx
     obtain ⟨x,ρ',H',h1,h2⟩ := go hh kb
     exact ⟨x,ρ',H',RunsK.cond hv h1,h2⟩
    ·rename_i t e
     rw [e] at hx
     generalize hv : evalA F.S ρ x = v at hx
     cases hx
     rcases fork_cases hh with ⟨rfl,h3⟩ | ⟨rfl,h3⟩
     ·obtain ⟨x,ρ',H',h1,h2⟩ := ih _ _ _ _ _ _ _ _ _ _ _ _ h3 (refR_ok hR hv) hS ka hfin hcut
      exact ⟨x,ρ',H',RunsK.cond hv h1,h2⟩
     ·obtain ⟨x,ρ',H',h1,h2⟩ := ih _ _ _ _ _ _ _ _ _ _ _ _ h3 (refR_ok hR hv) hS kb hfin hcut
      exact ⟨x,ρ',H',RunsK.cond hv h1,h2⟩
    ·exact qa1 hh
   ·rename_i id b
    obtain ⟨x,ρ',H',h1,h2⟩ := go hh ⟨fun y hy => hK.1 y hy,hK.2⟩
    exact ⟨x,ρ',H',h1.block,h2⟩
   ·rename_i b
    obtain ⟨x,ρ',H',h1,h2⟩ := go hh ⟨fun y hy => hK.1 y hy,fun y hy => hK.1 y hy,hK.2⟩
    exact ⟨x,ρ',H',h1.loop,h2⟩
   ·rename_i id ops draw
    split at hh
    ·rename_i chk hc
     exact hcut id chk _ r h E ρ H hc (hK.1 _ (by simp [allK])) hK hh hR hS (LeN.refl _ _) (qf _) (qf _)
    ·obtain ⟨ρ1,H1,r1,h1,E1,k1,k2,k3,k4,k5,k6,k7⟩ := regionX_ok (id := id) hC hX hL hcall hR hS hh
     obtain ⟨x,ρ',H',q1,q2⟩ := ih _ _ _ _ _ _ _ _ _ _ all Q k7 k4 k5 hK.2
      (fun x r' h' E' ρ' H' p1 p2 p3 p4 p5 p6 => hfin x r' h' E' ρ' H' p1 p2 p3 (k2.trans k3 k6 p4) (by omega) (by omega))
      (fun id chk k' r' h' E' ρ' H' p0 p00 p000 p1 p2 p3 p4 p5 p6 => hcut id chk k' r' h' E' ρ' H' p0 p00 p000 p1 p2 p3 (k2.trans k3 k6 p4) (by omega) (by omega))
     exact ⟨x,ρ',H',.c k1 q1,q2⟩
   ·exact qa1 hh
end Go.Sy

/- One symbolic state is a case of another one: numbers of objects may differ. Generic: over any program. -/
namespace Go.Sy
open Go.Am
set_option linter.unusedVariables false
set_option linter.unusedSimpArgs false
variable {C : Codec} {E : Env}
abbrev Ren := List (Option Nat)
def nodupI : List Int → Bool
 | [] => true
 | n :: l => (l.all fun m => !(n == m)) && nodupI l
theorem nodupI_ok : ∀ {l : List Int},nodupI l = true → l.Nodup
 | [],_ => List.nodup_nil
 | n :: l,h => by
  simp only [nodupI,qj,List.all_eq_true,Bool.not_eq_true',beq_eq_false_iff_ne] at h
  exact List.nodup_cons.2 ⟨fun hm => h.1 n hm rfl,nodupI_ok h.2⟩
noncomputable def Env.via (E : Env) (τ : Ren) (Sl : Nat → List AVal → Prop) : Env where
 β := fun j => ((τ[j]?).join).bind E.β
 γ := fun j => ((τ[j]?).join).bind E.γ
 ω := fun b => open Classical in if h : ∃ j,((τ[j]?).join).bind E.β = some b then some (Classical.choose h) else none
 Fr := fun b cs => E.Fr b cs ∨ Sl b cs
def mpZip (es es0 : List (Int × SV C.T)) : List (SV C.T × SV C.T) := es0.map fun q => (match es.find? fun p => p.1 == q.1 with
 | some p => p.2
 | none => .a .nils,q.2)
def mpKeys (es es0 : List (Int × SV C.T)) : Bool := (es.all fun p => es0.any fun q => q.1 == p.1) && nodupI (es0.map (·.1))
def mpNums (es0 : List (Int × SV C.T)) : Bool := match es0 with
 | [] => false
 | _ => es0.all fun p => (intOf p.2).isSome
def mpPos (es es0 : List (Int × SV C.T)) : Bool := mpNums es0 && Nat.beq es.length es0.length
def mpNeed : List (Int × SV C.T) → List (Int × SV C.T) → Tree → Tree
 | (n,_) :: es,(m,_) :: es0,t => .need (n = m) (mpNeed es es0 t)
 | [],[],t => t
 | _,_,_ => .stuck "a map of another length"
def bindX (fh : List (Obj C.T)) (h : SH C) (τ : Ren) (j id : Nat) (K : Ren → List (SV C.T × SV C.T) → Tree) : Tree :=
 match τ[j]? with
 | some (some id') => bif Nat.beq id' id then K τ [] else .stuck "two objects for one"
 | some none =>
  bif τ.contains (some id) then .stuck "one object for two" else
  match hget h id,fh[j]? with
  | some (.cells cs),some (.cells cs0) => bif Nat.beq cs.length cs0.length then K (τ.set j (some id)) (cs.zip cs0) else .stuck "cells of another number"
  | some (.mp es),some (.mp es0) => bif mpPos es es0 then mpNeed es es0 (K (τ.set j (some id)) ((es.map (·.2)).zip (es0.map (·.2)))) else
   bif mpKeys es es0 then K (τ.set j (some id)) (mpZip es es0) else .stuck "a map of other numbers"
  | some (.rows n l full _),some (.rows m l0 full0 root0) => if e : n = m then bif Nat.beq root0 j && (!full0 || full) then .need (castL e l = l0) (K (τ.set j (some id)) []) else .stuck "rows: room" else .stuck "rows of another kind"
  | _,_ => .stuck "an object of another kind"
 | none => .stuck "no such object"
def leW (fh : List (Obj C.T)) : Nat → List (SV C.T × SV C.T) → SH C → Ren → (Ren → SH C → Tree) → Tree
 | 0,_,_,_,_ => .stuck "le: fuel"
 | n + 1,[],h,τ,K => K τ h
 | n + 1,(x,v0) :: W,h,τ,K =>
  match v0 with
  | .any => leW fh n W h τ K
  | .a v => match litV x with
   | some v' => .need (v' = v) (leW fh n W h τ K)
   | none => match v with
    | .int k m => match intOf x with
     | some (k',m') => if k' = k then .need (m' = m) (leW fh n W h τ K) else .stuck "le: a"
     | none => .stuck "le: a"
    | .str s => match strOf x with
     | some s' => .need (s' = s) (leW fh n W h τ K)
     | none => .stuck "le: a"
    | _ => .stuck "le: a"
  | .i k m => match intOf x with
   | some (k',m') => if k' = k then .need (m' = m) (leW fh n W h τ K) else .stuck "le: kind"
   | none => .stuck "le: i"
  | .b t => match boolOf x with
   | some t' => .need (t' = t) (leW fh n W h τ K)
   | none => .stuck "le: b"
  | .s t => match strOf x with
   | some t' => .need (t' = t) (leW fh n W h τ K)
   | none => .stuck "le: s"
  | .agg cs0 => match x with
   | .agg cs => bif Nat.beq cs.length cs0.length then leW fh n (cs.zip cs0 ++ W) h τ K else .stuck "le: agg"
   | .a (.agg as) => bif Nat.beq as.length cs0.length then leW fh n ((as.map .a).zip cs0 ++ W) h τ K else .stuck "le: agg"
   | _ => .stuck "le: agg"
  | .tup cs0 => match x with
   | .tup cs => bif Nat.beq cs.length cs0.length then leW fh n (cs.zip cs0 ++ W) h τ K else .stuck "le: tup"
   | .a (.tup as) => bif Nat.beq as.length cs0.length then leW fh n ((as.map .a).zip cs0 ++ W) h τ K else .stuck "le: tup"
   | _ => .stuck "le: tup"
  | .iface t v => match x with
   | .iface t' x' => if t' = t then leW fh n ((x',v) :: W) h τ K else .stuck "le: iface"
   | .a (.iface t' a') => if t' = t then leW fh n ((.a a',v) :: W) h τ K else .stuck "le: iface"
   | _ => .stuck "le: iface"
  | .fp cs0 => match x with
   | .fp cs => bif Nat.beq cs.length cs0.length then leW fh n (cs.zip cs0 ++ W) h τ K else .stuck "le: fp"
   | .a (.ipt as) => bif Nat.beq as.length cs0.length then leW fh n ((as.map .a).zip cs0 ++ W) h τ K else .stuck "le: fp"
   | _ => .stuck "le: fp"
  | .tl m l => match x with
   | .tl m' l' => if e : m' = m then .need (castL e l' = l) (leW fh n W h τ K) else .stuck "le: tl"
   | .a .nils => .need ([] = l) (leW fh n W h τ K)
   | .sl sz id off len cap ex => match hget h id with
    | some (.cells cs) => if sz = C.sz m ∧ len ≤ cap ∧ off + len * sz ≤ cs.length ∧ !τ.contains (some id) then
     match decAll m (chunkS sz len (cs.drop off)) with
     | some xs => .need (xs = l) (leW fh n W (h.set id none) τ K)
     | none => .stuck "le: a row"
     else .stuck "le: tl sl"
    | _ => .stuck "le: tl sl"
   | .R id => match hget h id with
    | some (.rows m' l' full root) => if e : m' = m then (bif τ.contains (some id) then .stuck "le: tl R" else .need (castL e l' = l) (leW fh n W (h.set id none) τ K)) else .stuck "le: tl R"
    | _ => .stuck "le: tl R"
   | _ => .stuck "le: tl"
  | .fn f as bs => match x with
   | .fn f' as' bs' => if f' = f then bif Nat.beq as'.length as.length && Nat.beq bs'.length bs.length then leW fh n (as'.zip as ++ (bs'.zip bs ++ W)) h τ K else .stuck "le: fn" else .stuck "le: fn"
   | _ => .stuck "le: fn"
  | .ptr j off => match x with
   | .ptr id off' => bif Nat.beq off' off then bindX fh h τ j id fun τ' W' => leW fh n (W' ++ W) h τ' K else .stuck "le: ptr"
   | _ => .stuck "le: ptr"
  | .sl sz j off len cap ex => match x with
   | .sl sz' id off' len' cap' ex' => bif Nat.beq sz' sz && Nat.beq off' off && Nat.beq len' len && Nat.beq cap' cap && (ex' == ex) then bindX fh h τ j id fun τ' W' => leW fh n (W' ++ W) h τ' K else .stuck "le: sl"
   | _ => .stuck "le: sl"
  | .ep j i off => match x with
   | .ep id i' off' => bif Nat.beq off' off then .need (i' = i) (bindX fh h τ j id fun τ' W' => leW fh n (W' ++ W) h τ' K) else .stuck "le: ep"
   | _ => .stuck "le: ep"
  | .R j => match x with
   | .R id => bindX fh h τ j id fun τ' W' => leW fh n (W' ++ W) h τ' K
   | .a .nils => match fh[j]? with
    | some (.rows m l0 full0 root0) => bindX fh (h ++ [some (.rows m [] true h.length)]) τ j h.length fun τ' W' => leW fh n (W' ++ W) (h ++ [some (.rows m [] true h.length)]) τ' K
    | _ => .stuck "le: R"
   | .sl sz id off len cap ex => match fh[j]?,hget h id with
    | some (.rows m l0 full0 root0),some (.cells cs) =>
     if sz = C.sz m ∧ sz ≠ 0 ∧ len ≤ cap ∧ off + cap * sz ≤ cs.length ∧ (ex = true ∨ off + cap * sz = cs.length) ∧ !τ.contains (some id) then
      match decAll m (chunkS sz len (cs.drop off)) with
      | some xs => bindX fh (h.set id none ++ [some (.rows m xs (ex || Nat.beq cap len) id)]) τ j h.length fun τ' W' => leW fh n (W' ++ W) (h.set id none ++ [some (.rows m xs (ex || Nat.beq cap len) id)]) τ' K
      | none => .stuck "le: a row"
     else .stuck "le: R sl"
    | _,_ => .stuck "le: R sl"
   | _ => .stuck "le: R"
  | .mapr j => match x with
   | .mapr id => bindX fh h τ j id fun τ' W' => leW fh n (W' ++ W) h τ' K
   | _ => .stuck "le: mapr"
def RenOk (τ : Ren) : Prop := ∀ (j j' id : Nat),τ[j]? = some (some id) → τ[j']? = some (some id) → j = j'
def RenLe (τ τ' : Ren) : Prop := τ'.length = τ.length ∧ ∀ (j id : Nat),τ[j]? = some (some id) → τ'[j]? = some (some id)
theorem RenLe.refl (τ : Ren) : RenLe τ τ := ⟨rfl,fun _ _ h => h⟩
theorem RenLe.trans {a b c : Ren} (h : RenLe a b) (k : RenLe b c) : RenLe a c := ⟨k.1.trans h.1,fun j id x => k.2 j id (h.2 j id x)⟩
theorem via_β {τ : Ren} {Sl : Nat → List AVal → Prop} {j id : Nat} (h : τ[j]? = some (some id)) : (E.via τ Sl).β j = E.β id := by simp [Env.via,h]
theorem via_γ {τ : Ren} {Sl : Nat → List AVal → Prop} {j id : Nat} (h : τ[j]? = some (some id)) : (E.via τ Sl).γ j = E.γ id := by simp [Env.via,h]
theorem noId_er (hC : CodecOk C) {E E' : Env} (hF : ∀ b cs,E.Fr b cs → E'.Fr b cs) {x : SV C.T} {a : AVal} (h : Er E x a) : noId x = true → Er E' x a := by
 have mem : ∀ {n : Nat} {y : C.T n} {j : Nat} {z : SV C.T},(C.enc n y)[j]? = some z → noId z = true := fun {n y j z} hz => List.all_eq_true.1 (hC.ids n y) z (qp hz)
 induction h with
 | a v => exact fun _ => .a v
 | i k n => exact fun _ => .i k n
 | b x => exact fun _ => .b x
 | s x => exact fun _ => .s x
 | tlN => exact fun _ => .tlN
 | tlL hz hl hs _ ih => exact fun _ => .tlL hz hl hs fun i y r j x a h1 h2 h3 h4 => ih i y r j x a h1 h2 h3 h4 (mem h3)
 | tlS hz hl hf ho hc _ ih => exact fun _ => .tlS hz hl (hF _ _ hf) ho hc fun i y j x a h1 h2 h3 => ih i y j x a h1 h2 h3 (mem h2)
 | _ => intro h; cases h
def Good (E : Env) (τ : Ren) (Sl : Nat → List AVal → Prop) (p : SV C.T × SV C.T) : Prop := ∀ a,Er E p.1 a → Er (E.via τ Sl) p.2 a
theorem good_zip {τ : Ren} {Sl : Nat → List AVal → Prop} {cs cs0 : List (SV C.T)} (hl : cs.length = cs0.length) (h : ∀ p,p ∈ cs.zip cs0 → Good E τ Sl p) {as : List AVal} (hE : Ers E cs as) : Ers (E.via τ Sl) cs0 as := by
 refine ⟨by rw [← hl]; exact hE.1,fun i x0 a h1 h2 => ?_⟩
 have hi : i < cs.length := by rw [hl]; exact lt_of_some h1
 have hx : cs[i]? = some cs[i] := qt hi
 have hz : (cs.zip cs0)[i]? = some (cs[i],x0) := by rw [List.getElem?_zip_eq_some]; exact ⟨hx,h1⟩
 exact h _ (qp hz) a (hE.2 i _ a hx h2)
def ObjGood (E : Env) (h : SH C) (fh : List (Obj C.T)) (τ : Ren) (Sl : Nat → List AVal → Prop) (j id : Nat) : Prop :=
 (∃ es es0,h[id]? = some (some (.mp es)) ∧ fh[j]? = some (.mp es0) ∧ ((mpKeys es es0 = true ∧ ∀ p,p ∈ mpZip es es0 → Good E τ Sl p) ∨ (es.map (·.1) = es0.map (·.1) ∧ ∀ p,p ∈ (es.map (·.2)).zip (es0.map (·.2)) → Good E τ Sl p))) ∨
 (∃ cs cs0,h[id]? = some (some (.cells cs)) ∧ fh[j]? = some (.cells cs0) ∧ cs.length = cs0.length ∧ ∀ p,p ∈ cs.zip cs0 → Good E τ Sl p) ∨
 (∃ n l full full0 root,h[id]? = some (some (.rows n l full root)) ∧ fh[j]? = some (.rows n l full0 j) ∧ (full0 = true → full = true))
end Go.Sy

/- One symbolic state is a case of another one: it is sound. Generic: over any program. -/
namespace Go.Sy
open Go.Am
set_option linter.unusedVariables false
set_option linter.unusedSimpArgs false
variable {C : Codec} {E : Env}
def ObjPre (h : SH C) (fh : List (Obj C.T)) (W1 : List (SV C.T × SV C.T)) (j id : Nat) : Prop :=
 (∃ es es0,h[id]? = some (some (.mp es)) ∧ fh[j]? = some (.mp es0) ∧ ((mpKeys es es0 = true ∧ W1 = mpZip es es0) ∨ (es.map (·.1) = es0.map (·.1) ∧ W1 = (es.map (·.2)).zip (es0.map (·.2))))) ∨
 (∃ cs cs0,h[id]? = some (some (.cells cs)) ∧ fh[j]? = some (.cells cs0) ∧ cs.length = cs0.length ∧ W1 = cs.zip cs0) ∨
 (∃ n l full full0 root,h[id]? = some (some (.rows n l full root)) ∧ fh[j]? = some (.rows n l full0 j) ∧ (full0 = true → full = true))
theorem mpNeed_ok {t : Tree} : ∀ {es es0 : List (Int × SV C.T)},(mpNeed es es0 t).holds → es.map (·.1) = es0.map (·.1) ∧ t.holds
 | [],[],h => ⟨rfl,h⟩
 | [],_ :: _,h => (stuck_no h).elim
 | _ :: _,[],h => (stuck_no h).elim
 | (n,x) :: es,(m,y) :: es0,h => by
  obtain ⟨e,h⟩ := h
  have e : n = m := e
  obtain ⟨h1,h2⟩ := mpNeed_ok h
  exact ⟨by simp only [List.map_cons,e,h1],h2⟩
theorem bindX_ok {fh : List (Obj C.T)} {h : SH C} {τ : Ren} {j id : Nat} {K : Ren → List (SV C.T × SV C.T) → Tree} (hh : (bindX fh h τ j id K).holds) (hτ : RenOk τ) :
 ∃ τ1 W1,(K τ1 W1).holds ∧ RenLe τ τ1 ∧ τ1[j]? = some (some id) ∧ RenOk τ1 ∧ ∀ (j' id' : Nat),τ1[j']? = some (some id') → τ[j']? = some (some id') ∨ (j' = j ∧ id' = id ∧ ObjPre h fh W1 j id) := by
 unfold bindX at hh
 split at hh
 ·rename_i id' e
  cases hb : Nat.beq id' id with
  | false => rw [hb] at hh; exact qa1 hh
  | true =>
   rw [hb] at hh
   rw [Nat.beq_eq] at hb
   subst hb
   exact ⟨τ,[],hh,RenLe.refl τ,e,hτ,fun j' id' h => .inl h⟩
 ·rename_i e
  have hj : j < τ.length := lt_of_some e
  cases hc : τ.contains (some id) with
  | true => rw [hc] at hh; exact qa1 hh
  | false =>
   rw [hc] at hh
   simp only [cond_false] at hh
   have hfree : ∀ j' : Nat,τ[j']? ≠ some (some id) := by
    intro j' e'
    have : some id ∈ τ := qp e'
    have h2 : τ.contains (some id) = true := by simpa using this
    rw [hc] at h2
    cases h2
   have get : ∀ j' : Nat,(τ.set j (some id))[j']? = if j = j' then some (some id) else τ[j']? := by
    intro j'
    rw [qh]
    by_cases e2 : j = j'
    ·subst e2
     rw [if_pos rfl,if_pos rfl,if_pos hj]
    ·rw [if_neg e2,if_neg e2]
   have main : RenLe τ (τ.set j (some id)) ∧ (τ.set j (some id))[j]? = some (some id) ∧ RenOk (τ.set j (some id)) ∧ ∀ (j' id' : Nat),(τ.set j (some id))[j']? = some (some id') → τ[j']? = some (some id') ∨ (j' = j ∧ id' = id) := by
    refine ⟨⟨by simp,fun j' id' h => ?_⟩,by rw [get,if_pos rfl], ?_, ?_⟩
    ·rw [get]
     split
     ·rename_i e2; subst e2; rw [e] at h; cases h
     ·exact h
    ·intro a b i ha hb
     rw [get] at ha hb
     split at ha <;> split at hb
     ·omega
     ·cases ha; exact (hfree _ hb).elim
     ·cases hb; exact (hfree _ ha).elim
     ·exact hτ a b i ha hb
    ·intro j' id' h
     rw [get] at h
     split at h
     ·rename_i e2; cases h; exact .inr ⟨e2.symm,rfl⟩
     ·exact .inl h
   split at hh
   ·rename_i cs cs0 h1 h2
    cases hl : Nat.beq cs.length cs0.length with
    | false => rw [hl] at hh; exact qa1 hh
    | true =>
     rw [hl] at hh
     rw [Nat.beq_eq] at hl
     exact ⟨_,_,hh,main.1,main.2.1,main.2.2.1,fun j' id' h => (main.2.2.2 j' id' h).imp_right fun ⟨p,q⟩ => ⟨p,q,.inr (.inl ⟨cs,cs0,hget_some h1,h2,hl,rfl⟩)⟩⟩
   ·rename_i es es0 h1 h2
    cases hq : mpPos es es0 with
    | true =>
     rw [hq] at hh
     obtain ⟨hl,hh⟩ := mpNeed_ok hh
     exact ⟨_,_,hh,main.1,main.2.1,main.2.2.1,fun j' id' h => (main.2.2.2 j' id' h).imp_right fun ⟨p,q⟩ => ⟨p,q,.inl ⟨es,es0,hget_some h1,h2,.inr ⟨hl,rfl⟩⟩⟩⟩
    | false =>
    rw [hq] at hh
    cases hl : mpKeys es es0 with
    | false => rw [hl] at hh; exact qa1 hh
    | true =>
     rw [hl] at hh
     exact ⟨_,_,hh,main.1,main.2.1,main.2.2.1,fun j' id' h => (main.2.2.2 j' id' h).imp_right fun ⟨p,q⟩ => ⟨p,q,.inl ⟨es,es0,hget_some h1,h2,.inl ⟨hl,rfl⟩⟩⟩⟩
   ·rename_i n l full root m l0 full0 root0 h1 h2
    split at hh
    ·rename_i em
     subst em
     cases hl : (Nat.beq root0 j && (!full0 || full)) with
     | false => rw [hl] at hh; exact qa1 hh
     | true =>
      rw [hl] at hh
      simp only [cond_true] at hh
      obtain ⟨he,hk⟩ := hh
      rw [qj,Nat.beq_eq] at hl
      obtain ⟨rfl,hfull⟩ := hl
      have he : l = l0 := he
      subst he
      exact ⟨_,_,hk,main.1,main.2.1,main.2.2.1,fun j' id' h => (main.2.2.2 j' id' h).imp_right fun ⟨p,q⟩ => ⟨p,q,.inr (.inr ⟨n,l,full,full0,root,hget_some h1,h2,fun hf => by
       rw [hf] at hfull
       simpa using hfull⟩)⟩⟩
    ·exact qa1 hh
   ·exact qa1 hh
 ·exact qa1 hh
def SlOk (E : Env) (h : SH C) (H : Heap) (Sl : Nat → List AVal → Prop) : Prop := ∀ b cs,Sl b cs → H[b]? = some (some (.cells cs)) ∧ ∀ (id : Nat) (o : Obj C.T),h[id]? = some (some o) → E.β id ≠ some b
theorem ObjPre.good {E' : Env} {h h' : SH C} {fh : List (Obj C.T)} {W1 : List (SV C.T × SV C.T)} {τ' : Ren} {Sl : Nat → List AVal → Prop} {j id : Nat} (hp : ObjPre h fh W1 j id) (hk : h'[id]? = h[id]?) (hg : ∀ p,p ∈ W1 → Good E' τ' Sl p) : ObjGood E' h' fh τ' Sl j id := by
 rcases hp with ⟨es,es0,h1,h2,⟨h3,rfl⟩ | ⟨h3,rfl⟩⟩ | ⟨cs,cs0,h1,h2,h3,rfl⟩ | ⟨n,l,full,full0,root,h1,h2,h3⟩
 ·exact .inl ⟨es,es0,by rw [hk]; exact h1,h2,.inl ⟨h3,hg⟩⟩
 ·exact .inl ⟨es,es0,by rw [hk]; exact h1,h2,.inr ⟨h3,hg⟩⟩
 ·exact .inr (.inl ⟨cs,cs0,by rw [hk]; exact h1,h2,h3,hg⟩)
 ·exact .inr (.inr ⟨n,l,full,full0,root,by rw [hk]; exact h1,h2,h3⟩)
def LeOut (fh : List (Obj C.T)) (W : List (SV C.T × SV C.T)) (E : Env) (lo : Nat) (h : SH C) (H : Heap) (τ : Ren) (Sl : Nat → List AVal → Prop) (K : Ren → SH C → Tree) : Prop :=
 ∃ E' τ' h' Sl',LeN h.length H.length E E' ∧ h.length ≤ h'.length ∧ SimH E' lo 0 h' H ∧ RenOk τ' ∧ RenLe τ τ' ∧ (K τ' h').holds ∧ (∀ p,p ∈ W → Good E' τ' Sl' p) ∧ (∀ (j id : Nat),τ'[j]? = some (some id) → τ[j]? = some (some id) ∨ ObjGood E' h' fh τ' Sl' j id) ∧ (∀ (j id : Nat),τ[j]? = some (some id) → h'[id]? = h[id]?) ∧ SlOk E' h' H Sl' ∧ (∀ b cs,Sl b cs → Sl' b cs)
theorem LeOut.cons {fh : List (Obj C.T)} {W : List (SV C.T × SV C.T)} {p : SV C.T × SV C.T} {lo : Nat} {h : SH C} {H : Heap} {τ : Ren} {Sl : Nat → List AVal → Prop} {K : Ren → SH C → Tree} (h1 : LeOut fh W E lo h H τ Sl K) (hg : ∀ E' τ' Sl',E.le E' → RenLe τ τ' → (∀ q,q ∈ W → Good E' τ' Sl' q) → Good E' τ' Sl' p) : LeOut fh (p :: W) E lo h H τ Sl K := by
 obtain ⟨E',τ',h',Sl',k1,k2,k3,k4,k5,k6,k7,k8,k9,ks⟩ := h1
 refine ⟨E',τ',h',Sl',k1,k2,k3,k4,k5,k6,fun q hq => ?_,k8,k9,ks⟩
 rcases List.mem_cons.1 hq with rfl | hq
 ·exact hg E' τ' Sl' k1.le k5 k7
 ·exact k7 q hq
theorem LeOut.sub {fh : List (Obj C.T)} {W1 W : List (SV C.T × SV C.T)} {p : SV C.T × SV C.T} {lo : Nat} {h : SH C} {H : Heap} {τ : Ren} {Sl : Nat → List AVal → Prop} {K : Ren → SH C → Tree} (h1 : LeOut fh (W1 ++ W) E lo h H τ Sl K) (hg : ∀ E' τ' Sl',E.le E' → RenLe τ τ' → (∀ q,q ∈ W1 → Good E' τ' Sl' q) → Good E' τ' Sl' p) : LeOut fh (p :: W) E lo h H τ Sl K := by
 obtain ⟨E',τ',h',Sl',k1,k2,k3,k4,k5,k6,k7,k8,k9,ks⟩ := h1
 refine ⟨E',τ',h',Sl',k1,k2,k3,k4,k5,k6,fun q hq => ?_,k8,k9,ks⟩
 rcases List.mem_cons.1 hq with rfl | hq
 ·exact hg E' τ' Sl' k1.le k5 fun q hq => k7 q (List.mem_append_left _ hq)
 ·exact k7 q (List.mem_append_right _ hq)
theorem LeOut.bind {fh : List (Obj C.T)} {W1 W : List (SV C.T × SV C.T)} {p : SV C.T × SV C.T} {lo j id : Nat} {h : SH C} {H : Heap} {τ τ1 : Ren} {Sl : Nat → List AVal → Prop} {K : Ren → SH C → Tree} (h1 : LeOut fh (W1 ++ W) E lo h H τ1 Sl K) (hle : RenLe τ τ1) (hj : τ1[j]? = some (some id))
 (hnew : ∀ (j' id' : Nat),τ1[j']? = some (some id') → τ[j']? = some (some id') ∨ (j' = j ∧ id' = id ∧ ObjPre h fh W1 j id)) (hg : ∀ E' τ' Sl',E.le E' → τ'[j]? = some (some id) → Good E' τ' Sl' p) : LeOut fh (p :: W) E lo h H τ Sl K := by
 obtain ⟨E',τ',h',Sl',k1,k2,k3,k4,k5,k6,k7,k8,k9,ks⟩ := h1
 refine ⟨E',τ',h',Sl',k1,k2,k3,k4,hle.trans k5,k6,fun q hq => ?_,fun j' id' h2 => ?_,fun j' id' h2 => k9 j' id' (hle.2 j' id' h2),ks⟩
 ·rcases List.mem_cons.1 hq with rfl | hq
  ·exact hg E' τ' Sl' k1.le (k5.2 j id hj)
  ·exact k7 q (List.mem_append_right _ hq)
 ·rcases k8 j' id' h2 with h3 | h3
  ·rcases hnew j' id' h3 with h4 | ⟨rfl,rfl,h4⟩
   ·exact .inl h4
   ·exact .inr (h4.good (k9 _ _ h3) fun q hq => k7 q (List.mem_append_left _ hq))
  ·exact .inr h3
theorem SlOk.put {E2 : Env} {h h2 : SH C} {H : Heap} {Sl : Nat → List AVal → Prop} (hs : SlOk E h H Sl) (hold : ∀ i,i < h.length → E2.β i = E.β i) (hn : ∀ (i : Nat) (o : Obj C.T),h2[i]? = some (some o) → (i < h.length ∧ ∃ o',h[i]? = some (some o')) ∨ E2.β i = none ∨ ∃ (i' : Nat) (o' : Obj C.T),h[i']? = some (some o') ∧ E2.β i = E.β i') : SlOk E2 h2 H Sl := by
 intro b cs hb
 refine ⟨(hs b cs hb).1,fun i o hi e => ?_⟩
 rcases hn i o hi with ⟨h1,o',h2⟩ | h1 | ⟨i',o',h1,h2⟩
 ·rw [hold i h1] at e
  exact (hs b cs hb).2 i o' h2 e
 ·rw [h1] at e; cases e
 ·rw [h2] at e
  exact (hs b cs hb).2 i' o' h1 e
theorem SimH.drop {lo wlo : Nat} {h : SH C} {H : Heap} (hS : SimH E lo wlo h H) (id : Nat) : SimH E lo wlo (h.set id none) H := by
 have hold : ∀ {i : Nat} {o : Obj C.T},(h.set id none)[i]? = some (some o) → h[i]? = some (some o) := by
  intro i o hi
  rw [qh] at hi
  split at hi
  ·split at hi <;> cases hi
  ·exact hi
 exact ⟨fun i o hi => hS.obj i o (hold hi),fun i i' o o' b hi hi' => hS.inj i i' o o' b (hold hi) (hold hi'),fun b cs hf => ⟨(hS.fr b cs hf).1,fun i o hi => (hS.fr b cs hf).2 i o (hold hi)⟩,fun i hi => hS.fresh i (by simpa using hi),hS.low,hS.bnd,hS.own,hS.βω,by simpa using hS.wl,hS.ll⟩
theorem mp_zip {τ : Ren} {Sl : Nat → List AVal → Prop} {es es0 : List (Int × SV C.T)} {as : List (AVal × AVal)} (hk : mpKeys es es0 = true) (h : ∀ p,p ∈ mpZip es es0 → Good E τ Sl p) (hE : MpOk E es as) : MpOk (E.via τ Sl) es0 as := by
 simp only [mpKeys,qj,List.all_eq_true,List.any_eq_true,beq_iff_eq] at hk
 refine ⟨hE.keys,nodupI_ok hk.2,fun n x hx => ?_,fun n v hv => ?_⟩
 ·have hp := h _ (List.mem_map.2 ⟨(n,x),hx,rfl⟩)
  simp only at hp
  cases hf : es.find? fun p => p.1 == n with
  | some p =>
   rw [hf] at hp
   have hm := List.mem_of_find?_eq_some hf
   have hn := List.find?_some hf
   simp only [beq_iff_eq] at hn
   obtain ⟨m,y⟩ := p
   simp only at hn
   subst hn
   rcases hE.val m y hm with ⟨v,h1,h2⟩ | ⟨h1,h2⟩
   ·exact .inl ⟨v,h1,hp v h2⟩
   ·exact .inr ⟨h1,hp _ h2⟩
  | none =>
   rw [hf] at hp
   rw [List.find?_eq_none] at hf
   refine .inr ⟨?_,hp _ (.a _)⟩
   cases hv : mpAt n as with
   | none => rfl
   | some v =>
    obtain ⟨y,hy⟩ := hE.dom n v hv
    exact (hf _ hy (by simp)).elim
 ·obtain ⟨y,hy⟩ := hE.dom n v hv
  obtain ⟨q,hq,e⟩ := hk.1 _ hy
  obtain ⟨m,x⟩ := q
  simp only at e
  subst e
  exact ⟨x,hq⟩
theorem mp_pos {τ : Ren} {Sl : Nat → List AVal → Prop} {es es0 : List (Int × SV C.T)} {as : List (AVal × AVal)} (hk : es.map (·.1) = es0.map (·.1)) (h : ∀ p,p ∈ (es.map (·.2)).zip (es0.map (·.2)) → Good E τ Sl p) (hE : MpOk E es as) : MpOk (E.via τ Sl) es0 as := by
 refine ⟨hE.keys,by rw [← hk]; exact hE.nodup,fun n x hx => ?_,fun n v hv => ?_⟩
 ·obtain ⟨i,hi⟩ := List.mem_iff_getElem?.1 hx
  have h1 : (es0.map (·.1))[i]? = some n := by rw [List.getElem?_map,hi]; rfl
  rw [← hk,List.getElem?_map] at h1
  cases hq : es[i]? with
  | none => rw [hq] at h1; cases h1
  | some q =>
   rw [hq] at h1
   obtain ⟨m,y⟩ := q
   simp only [Option.map_some,qa] at h1
   subst h1
   have hp := h (y,x) (by
    refine qp (i := i) ?_
    rw [List.getElem?_zip_eq_some]
    exact ⟨by rw [List.getElem?_map,hq]; rfl,by rw [List.getElem?_map,hi]; rfl⟩)
   rcases hE.val m y (qp hq) with ⟨v,h1,h2⟩ | ⟨h1,h2⟩
   ·exact .inl ⟨v,h1,hp v h2⟩
   ·exact .inr ⟨h1,hp _ h2⟩
 ·obtain ⟨y,hy⟩ := hE.dom n v hv
  have : n ∈ es.map (·.1) := List.mem_map.2 ⟨_,hy,rfl⟩
  rw [hk] at this
  obtain ⟨⟨m,x⟩,hx,e⟩ := List.mem_map.1 this
  simp only at e
  subst e
  exact ⟨x,hx⟩
theorem leW_ok (hC : CodecOk C) {fh : List (Obj C.T)} {lo : Nat} {H : Heap} {K : Ren → SH C → Tree} : ∀ {n : Nat} {W : List (SV C.T × SV C.T)} {E : Env} {h : SH C} {τ : Ren} {Sl : Nat → List AVal → Prop},(leW fh n W h τ K).holds → SimH E lo 0 h H → RenOk τ → (∀ (j id : Nat),τ[j]? = some (some id) → id < h.length) → SlOk E h H Sl → LeOut fh W E lo h H τ Sl K
 | 0,W,E,h,τ,Sl,hh,hS,hτ,hv,hs => (stuck_no hh).elim
 | n + 1,[],E,h,τ,Sl,hh,hS,hτ,hv,hs => ⟨E,τ,h,Sl,LeN.refl _ _,qf _,hS,hτ,RenLe.refl _,hh,fun p hp => by simp at hp,fun j id h => .inl h,fun j id h => rfl,hs,fun _ _ h => h⟩
 | n + 1,(x,v0) :: W,E,h,τ,Sl,hh,hS,hτ,hv,hs => by
  simp only [leW] at hh
  have ih := fun {W : List (SV C.T × SV C.T)} {E : Env} {h : SH C} {τ : Ren} {Sl : Nat → List AVal → Prop} (h1 : (leW fh n W h τ K).holds) (h2 : SimH E lo 0 h H) (h3 : RenOk τ) (h4 : ∀ (j id : Nat),τ[j]? = some (some id) → id < h.length) (h5 : SlOk E h H Sl) => leW_ok hC (n := n) h1 h2 h3 h4 h5
  have pre : ∀ {h : SH C} {τ1 : Ren} {j id : Nat} {W1 : List (SV C.T × SV C.T)},(∀ (j id : Nat),τ[j]? = some (some id) → id < h.length) → (∀ (j' id' : Nat),τ1[j']? = some (some id') → τ[j']? = some (some id') ∨ (j' = j ∧ id' = id ∧ ObjPre h fh W1 j id)) → ∀ (j id : Nat),τ1[j]? = some (some id) → id < h.length := by
   intro h τ1 j id W1 hv h5 j' id' hj
   rcases h5 j' id' hj with h6 | ⟨rfl,rfl,h6⟩
   ·exact hv j' id' h6
   ·rcases h6 with ⟨es,es0,h7,_⟩ | ⟨cs,cs0,h7,_⟩ | ⟨n,l,full,full0,root,h7,_⟩ <;> exact lt_of_some h7
  have bind : ∀ {j id : Nat},(bindX fh h τ j id fun τ' W' => leW fh n (W' ++ W) h τ' K).holds → (∀ E' τ' Sl',E.le E' → τ'[j]? = some (some id) → Good E' τ' Sl' (x,v0)) → LeOut fh ((x,v0) :: W) E lo h H τ Sl K := by
   intro j id hb hg
   obtain ⟨τ1,W1,h1,h2,h3,h4,h5⟩ := bindX_ok hb hτ
   exact (ih h1 hS h4 (pre hv h5) hs).bind h2 h3 h5 hg
  split at hh
  ·exact (ih hh hS hτ hv hs).cons fun E' τ' Sl' _ _ _ a _ => .any
  ·rename_i v
   split at hh
   ·rename_i v' hl
    obtain ⟨rfl,hk⟩ := hh
    refine (ih hk hS hτ hv hs).cons fun E' τ' Sl' _ _ _ a ha => ?_
    rw [litV_ok ha hl]
    exact .a _
   ·split at hh
    ·rename_i k m
     split at hh
     ·rename_i k' m' hi
      split at hh
      ·rename_i hk
       subst hk
       obtain ⟨rfl,hk⟩ := hh
       refine (ih hk hS hτ hv hs).cons fun E' τ' Sl' _ _ _ a ha => ?_
       rw [intOf_ok ha hi]
       exact .a _
      ·exact qa1 hh
     ·exact qa1 hh
    ·split at hh
     ·rename_i s' hi
      obtain ⟨rfl,hk⟩ := hh
      refine (ih hk hS hτ hv hs).cons fun E' τ' Sl' _ _ _ a ha => ?_
      rw [strOf_ok ha hi]
      exact .a _
     ·exact qa1 hh
    ·exact qa1 hh
  ·rename_i k m
   split at hh
   ·rename_i k' m' hi
    split at hh
    ·rename_i hk
     subst hk
     obtain ⟨rfl,hk⟩ := hh
     refine (ih hk hS hτ hv hs).cons fun E' τ' Sl' _ _ _ a ha => ?_
     rw [intOf_ok ha hi]
     exact .i _ _
    ·exact qa1 hh
   ·exact qa1 hh
  ·split at hh
   ·rename_i t' hi
    obtain ⟨rfl,hk⟩ := hh
    refine (ih hk hS hτ hv hs).cons fun E' τ' Sl' _ _ _ a ha => ?_
    rw [boolOf_ok ha hi]
    exact .b _
   ·exact qa1 hh
  ·split at hh
   ·rename_i t' hi
    obtain ⟨rfl,hk⟩ := hh
    refine (ih hk hS hτ hv hs).cons fun E' τ' Sl' _ _ _ a ha => ?_
    rw [strOf_ok ha hi]
    exact .s _
   ·exact qa1 hh
  ·rename_i cs0
   split at hh
   ·rename_i cs
    cases hb : Nat.beq cs.length cs0.length with
    | false => rw [hb] at hh; exact qa1 hh
    | true =>
     rw [hb] at hh
     rw [Nat.beq_eq] at hb
     refine (ih hh hS hτ hv hs).sub fun E' τ' Sl' _ _ hg a ha => ?_
     cases ha with
     | agg hl hr =>
      have := good_zip hb hg ⟨hl,hr⟩
      exact .agg this.1 this.2
   ·rename_i as
    cases hb : Nat.beq as.length cs0.length with
    | false => rw [hb] at hh; exact qa1 hh
    | true =>
     rw [hb] at hh
     rw [Nat.beq_eq] at hb
     refine (ih hh hS hτ hv hs).sub fun E' τ' Sl' _ _ hg a ha => ?_
     cases ha
     have := good_zip (by simpa using hb) hg (Ers.mapA as)
     exact .agg this.1 this.2
   ·exact qa1 hh
  ·rename_i cs0
   split at hh
   ·rename_i cs
    cases hb : Nat.beq cs.length cs0.length with
    | false => rw [hb] at hh; exact qa1 hh
    | true =>
     rw [hb] at hh
     rw [Nat.beq_eq] at hb
     refine (ih hh hS hτ hv hs).sub fun E' τ' Sl' _ _ hg a ha => ?_
     cases ha with
     | tup hl hr =>
      have := good_zip hb hg ⟨hl,hr⟩
      exact .tup this.1 this.2
   ·rename_i as
    cases hb : Nat.beq as.length cs0.length with
    | false => rw [hb] at hh; exact qa1 hh
    | true =>
     rw [hb] at hh
     rw [Nat.beq_eq] at hb
     refine (ih hh hS hτ hv hs).sub fun E' τ' Sl' _ _ hg a ha => ?_
     cases ha
     have := good_zip (by simpa using hb) hg (Ers.mapA as)
     exact .tup this.1 this.2
   ·exact qa1 hh
  ·rename_i t v
   split at hh
   ·rename_i t' x'
    split at hh
    ·rename_i ht
     subst ht
     refine LeOut.sub (W1 := [(x',v)]) (ih hh hS hτ hv hs) fun E' τ' Sl' _ _ hg a ha => ?_
     cases ha with
     | iface hi => exact .iface (hg (x',v) (by simp) _ hi)
    ·exact qa1 hh
   ·rename_i t' a'
    split at hh
    ·rename_i ht
     subst ht
     refine LeOut.sub (W1 := [(.a a',v)]) (ih hh hS hτ hv hs) fun E' τ' Sl' _ _ hg a ha => ?_
     cases ha
     exact .iface (hg (.a a',v) (by simp) _ (.a _))
    ·exact qa1 hh
   ·exact qa1 hh
  ·rename_i cs0
   split at hh
   ·rename_i cs
    cases hb : Nat.beq cs.length cs0.length with
    | false => rw [hb] at hh; exact qa1 hh
    | true =>
     rw [hb] at hh
     rw [Nat.beq_eq] at hb
     refine (ih hh hS hτ hv hs).sub fun E' τ' Sl' _ _ hg a ha => ?_
     cases ha with
     | fpI e hl hr =>
      have := good_zip hb hg ⟨hl,hr⟩
      exact .fpI e this.1 this.2
     | fpP hf e hl hr =>
      have := good_zip hb hg ⟨hl,hr⟩
      exact .fpP (.inl hf) e this.1 this.2
   ·rename_i as
    cases hb : Nat.beq as.length cs0.length with
    | false => rw [hb] at hh; exact qa1 hh
    | true =>
     rw [hb] at hh
     rw [Nat.beq_eq] at hb
     refine (ih hh hS hτ hv hs).sub fun E' τ' Sl' _ _ hg a ha => ?_
     cases ha
     have := good_zip (by simpa using hb) hg (Ers.mapA as)
     exact .fpI (List.append_nil _).symm this.1 this.2
   ·exact qa1 hh
  ·rename_i m l
   split at hh
   ·rename_i m' l'
    split at hh
    ·rename_i em
     subst em
     obtain ⟨he,hk⟩ := hh
     have he : l' = l := he
     subst he
     refine (ih hk hS hτ hv hs).cons fun E' τ' Sl' _ _ _ a ha => ?_
     cases ha with
     | tlN => exact .tlN
     | tlL h1 h2 h3 h4 => exact noId_er hC (E := E') (E' := E'.via τ' Sl') (fun _ _ h => .inl h) (.tlL h1 h2 h3 h4) rfl
     | tlS h1 h2 h3 h4 h5 h6 => exact noId_er hC (E := E') (E' := E'.via τ' Sl') (fun _ _ h => .inl h) (.tlS h1 h2 h3 h4 h5 h6) rfl
    ·exact qa1 hh
   ·obtain ⟨rfl,hk⟩ := hh
    refine (ih hk hS hτ hv hs).cons fun E' τ' Sl' _ _ _ a ha => ?_
    cases ha
    exact .tlN
   ·rename_i sz id off len cap ex
    split at hh
    ·rename_i cs ho
     split at hh
     ·rename_i hc
      obtain ⟨hc1,hc3,hc4,hc6⟩ := hc
      split at hh
      ·rename_i xs hxs
       obtain ⟨he,hk⟩ := hh
       have he : xs = l := he
       subst he
       have hid := hget_some ho
       obtain ⟨b,as,g1,gw,g2,g3⟩ := hS.obj id _ hid
       have hl := g3.1
       have hch := decAll_ok hC (chunkS_ok (n := len) (z := sz) (g3.drop off) (by simp; omega)) hxs
       rw [hc1] at hch
       have hxl : xs.length = len := by
        have := hch.1
        rw [chunk_len] at this
        simpa using this
       have hnot : ∀ (j' : Nat),τ[j']? ≠ some (some id) := by
        intro j' e'
        have : some id ∈ τ := qp e'
        simp [this] at hc6
       have hrows : RowsAt E m xs as off := by
        intro i y jj xx aa q1 q2 q3
        have hi : i < len := by have := lt_of_some q1; omega
        have hrow := hch.2 i (C.enc m y) ((as.drop off |>.drop (i * sz)).take sz) (by simp [q1]) (by rw [← hc1]; exact chunk_get hi)
        have hjj : jj < sz := by have := lt_of_some q2; rw [hC.len] at this; omega
        refine hrow.1.2 jj xx aa q2 ?_
        rw [qx,if_pos hjj,qw,qw,hc1,← Nat.add_assoc]
        exact q3
       have hL := ih (Sl := fun b' cs' => Sl b' cs' ∨ (b' = b ∧ cs' = as)) hk (hS.drop id) hτ (fun j i hj => by simpa using hv j i hj) (by
        intro b' cs' hb'
        have old : ∀ (i : Nat) (o : Obj C.T),(h.set id none)[i]? = some (some o) → i ≠ id ∧ h[i]? = some (some o) := by
         intro i o hi
         rw [qh] at hi
         split at hi
         ·split at hi <;> cases hi
         ·rename_i e; exact ⟨fun e2 => e e2.symm,hi⟩
        rcases hb' with hb' | ⟨rfl,rfl⟩
        ·exact ⟨(hs b' cs' hb').1,fun i o hi => (hs b' cs' hb').2 i o (old i o hi).2⟩
        ·exact ⟨g2,fun i o hi e => (old i o hi).1 (hS.inj i id o _ b' (old i o hi).2 hid e g1)⟩)
       obtain ⟨E',τ',h',Sl',k1,k2,k3,k4,k5,k6,k7,k8,k9,ks1,ks2⟩ := hL
       simp only [qz] at k1 k2
       refine ⟨E',τ',h',Sl',k1,k2,k3,k4,k5,k6,fun q hq => ?_,k8,fun j' id' hj' => ?_,ks1,fun b' cs' hb' => ks2 b' cs' (.inl hb')⟩
       ·rcases List.mem_cons.1 hq with rfl | hq
        ·intro a ha
         cases ha with
         | sl hβ =>
          have e1 := k1.le.β _ _ g1
          rw [e1] at hβ
          cases hβ
          exact .tlS hc1 hxl.symm (.inr (ks2 b as (.inr ⟨rfl,rfl⟩))) (by rw [← hc1,hxl]; omega) (by omega) fun i y jj xx aa q1 q2 q3 =>
           noId_er hC (E := E) (E' := E'.via τ' Sl') (fun b cs hf => .inl (k1.le.Fr b cs hf)) (hrows i y jj xx aa q1 q2 q3) (List.all_eq_true.1 (hC.ids m y) xx (qp q2))
        ·exact k7 q hq
       ·rw [k9 j' id' hj',qh,if_neg (fun e => hnot j' (by rw [e]; exact hj'))]
      ·exact qa1 hh
     ·exact qa1 hh
    ·exact qa1 hh
   ·rename_i id
    split at hh
    ·rename_i m' l' full root ho
     split at hh
     ·rename_i em
      subst em
      cases hc : τ.contains (some id) with
      | true => rw [hc] at hh; exact qa1 hh
      | false =>
      rw [hc] at hh
      obtain ⟨he,hk⟩ := hh
      have he : l' = l := he
      subst he
      have hid := hget_some ho
      have hnot : ∀ (j' : Nat),τ[j']? ≠ some (some id) := by
       intro j' e'
       have : some id ∈ τ := qp e'
       have h2 : τ.contains (some id) = true := by simpa using this
       rw [hc] at h2
       cases h2
      have old : ∀ (i : Nat) (o : Obj C.T),(h.set id none)[i]? = some (some o) → i ≠ id ∧ h[i]? = some (some o) := by
       intro i o hi
       rw [qh] at hi
       split at hi
       ·split at hi <;> cases hi
       ·rename_i e; exact ⟨fun e2 => e e2.symm,hi⟩
      rcases hS.obj id _ hid with ⟨rfl,g1,a0,g2,g3⟩ | ⟨b,off,cap,ex,as,g1,g2,gw,g3,g4,g5,g6,g7,g8⟩
      ·have hL := ih (Sl := Sl) hk (hS.drop id) hτ (fun j i hj => by simpa using hv j i hj) (fun b' cs' hb' => ⟨(hs b' cs' hb').1,fun i o hi => (hs b' cs' hb').2 i o (old i o hi).2⟩)
       obtain ⟨E',τ',h',Sl',k1,k2,k3,k4,k5,k6,k7,k8,k9,ks1,ks2⟩ := hL
       simp only [qz] at k1 k2
       refine ⟨E',τ',h',Sl',k1,k2,k3,k4,k5,k6,fun q hq => ?_,k8,fun j' id' hj' => ?_,ks1,ks2⟩
       ·rcases List.mem_cons.1 hq with rfl | hq
        ·intro a ha
         cases ha with
         | R hγ _ =>
          have e1 := k1.le.γ _ _ g2
          rw [e1] at hγ
          cases hγ
          rcases g3 with rfl | rfl
          ·exact .tlN
          ·exact .tlL rfl rfl (fun i r hi => by simp at hi) (fun i y r j x a q1 => by simp at q1)
        ·exact k7 q hq
       ·rw [k9 j' id' hj',qh,if_neg (fun e => hnot j' (by rw [e]; exact hj'))]
      ·have hL := ih (Sl := fun b' cs' => Sl b' cs' ∨ (b' = b ∧ cs' = as)) hk (hS.drop id) hτ (fun j i hj => by simpa using hv j i hj) (by
        intro b' cs' hb'
        rcases hb' with hb' | ⟨rfl,rfl⟩
        ·exact ⟨(hs b' cs' hb').1,fun i o hi => (hs b' cs' hb').2 i o (old i o hi).2⟩
        ·exact ⟨g3,fun i o hi e => (old i o hi).1 (hS.inj i id o _ b' (old i o hi).2 hid e g2)⟩)
       obtain ⟨E',τ',h',Sl',k1,k2,k3,k4,k5,k6,k7,k8,k9,ks1,ks2⟩ := hL
       simp only [qz] at k1 k2
       refine ⟨E',τ',h',Sl',k1,k2,k3,k4,k5,k6,fun q hq => ?_,k8,fun j' id' hj' => ?_,ks1,fun b' cs' hb' => ks2 b' cs' (.inl hb')⟩
       ·rcases List.mem_cons.1 hq with rfl | hq
        ·intro a ha
         cases ha with
         | R hγ _ =>
          have e1 := k1.le.γ _ _ g1
          rw [e1] at hγ
          cases hγ
          have hle : l'.length * C.sz m' ≤ cap * C.sz m' := Nat.mul_le_mul_right _ g4
          exact .tlS rfl rfl (.inr (ks2 b as (.inr ⟨rfl,rfl⟩))) (by omega) g4 fun i y jj xx aa q1 q2 q3 =>
           noId_er hC (E := E) (E' := E'.via τ' Sl') (fun b cs hf => .inl (k1.le.Fr b cs hf)) (g8 i y jj xx aa q1 q2 q3) (List.all_eq_true.1 (hC.ids m' y) xx (qp q2))
        ·exact k7 q hq
       ·rw [k9 j' id' hj',qh,if_neg (fun e => hnot j' (by rw [e]; exact hj'))]
     ·exact qa1 hh
    ·exact qa1 hh
   ·exact qa1 hh
  ·rename_i f as bs
   split at hh
   ·rename_i f' as' bs'
    split at hh
    ·rename_i hf
     subst hf
     cases hb : (Nat.beq as'.length as.length && Nat.beq bs'.length bs.length) with
     | false => rw [hb] at hh; exact qa1 hh
     | true =>
      rw [hb] at hh
      simp only [cond_true] at hh
      rw [qj,Nat.beq_eq,Nat.beq_eq] at hb
      rw [← List.append_assoc] at hh
      refine (ih hh hS hτ hv hs).sub fun E' τ' Sl' _ _ hg a ha => ?_
      cases ha with
      | fn q1 q2 q3 q4 =>
       have g1 := good_zip hb.1 (fun p hp => hg p (List.mem_append_left _ hp)) ⟨q1,q2⟩
       have g2 := good_zip hb.2 (fun p hp => hg p (List.mem_append_right _ hp)) ⟨q3,q4⟩
       exact .fn g1.1 g1.2 g2.1 g2.2
    ·exact qa1 hh
   ·exact qa1 hh
  ·rename_i j off
   split at hh
   ·rename_i id off'
    cases hb : Nat.beq off' off with
    | false => rw [hb] at hh; exact qa1 hh
    | true =>
     rw [hb] at hh
     rw [Nat.beq_eq] at hb
     subst hb
     refine bind hh fun E' τ' Sl' _ hj a ha => ?_
     cases ha with
     | ptr hβ => exact .ptr (by rw [via_β hj]; exact hβ)
   ·exact qa1 hh
  ·rename_i sz j off len cap ex
   split at hh
   ·rename_i sz' id off' len' cap' ex'
    cases hb : (Nat.beq sz' sz && Nat.beq off' off && Nat.beq len' len && Nat.beq cap' cap && (ex' == ex)) with
    | false => rw [hb] at hh; exact qa1 hh
    | true =>
     rw [hb] at hh
     simp only [qj,Nat.beq_eq,beq_iff_eq] at hb
     obtain ⟨⟨⟨⟨rfl,rfl⟩,rfl⟩,rfl⟩,rfl⟩ := hb
     refine bind hh fun E' τ' Sl' _ hj a ha => ?_
     cases ha with
     | sl hβ => exact .sl (by rw [via_β hj]; exact hβ)
   ·exact qa1 hh
  ·rename_i j i off
   split at hh
   ·rename_i id i' off'
    cases hb : Nat.beq off' off with
    | false => rw [hb] at hh; exact qa1 hh
    | true =>
     rw [hb] at hh
     rw [Nat.beq_eq] at hb
     subst hb
     obtain ⟨rfl,hk⟩ := hh
     refine bind hk fun E' τ' Sl' _ hj a ha => ?_
     cases ha with
     | ep hγ => exact .ep (by rw [via_γ hj]; exact hγ)
   ·exact qa1 hh
  ·rename_i j
   split at hh
   ·rename_i id
    refine bind hh fun E' τ' Sl' _ hj a ha => ?_
    cases ha with
    | R hγ hs => exact .R (by rw [via_γ hj]; exact hγ) hs
   ·split at hh
    ·rename_i m l0 full0 root0 hfj
     have hn0 : h.set h.length none = h := by
      apply List.ext_getElem?
      intro i
      rw [qh]
      split
      ·rename_i hj; subst hj; simp
      ·rfl
     have hput := hS.put (H' := H) h.length (.rows m [] true h.length) none .nils h.length (qf _) (fun b _ hne => (hne rfl).elim) (fun b hb => by cases hb) (fun hle => .inl ⟨rfl,by simp [Env.put],.nils,by simp [Env.put],.inl rfl⟩)
     rw [hn0] at hput
     obtain ⟨τ1,W1,h1,h2,h3,h4,h5⟩ := bindX_ok hh hτ
     have hv1 : ∀ (j id : Nat),τ[j]? = some (some id) → id < (h ++ [some (Obj.rows m [] true h.length)]).length := fun j id hj => by have := hv j id hj; simp; omega
     have hL := (ih h1 hput.2 h4 (pre hv1 h5) (hs.put (fun i hi => (hput.1.old i hi).1) fun i o hi => by
      rcases qm i h.length with k | k
      ·rw [qg k] at hi
       exact .inl ⟨k,o,hi⟩
      ·rw [qk k] at hi
       have : i = h.length := by have := lt_of_some hi; simp at this; omega
       subst this
       exact .inr (.inl (by simp [Env.put])))).bind (τ := τ) (p := (.a .nils,.R j)) h2 h3 h5 (fun E' τ' Sl' hle hj a ha => by
      cases ha
      exact .R (by rw [via_γ hj]; exact hle.γ _ _ (by simp [Env.put])) rfl)
     obtain ⟨E',τ',h',Sl',k1,k2,k3,k4,k5,k6,k7,k8,k9,ks⟩ := hL
     simp only [qo,qn,List.length_nil] at k1 k2
     refine ⟨E',τ',h',Sl',hput.1.trans (by omega) (qf _) k1,by omega,k3,k4,k5,k6,k7,k8,fun j' id' hj' => ?_,ks⟩
     rw [k9 j' id' hj',qg (hv j' id' hj')]
    ·exact qa1 hh
   ·rename_i sz id off len cap ex
    split at hh
    ·rename_i m l0 full0 root0 cs hfj ho
     split at hh
     ·rename_i hc
      obtain ⟨hc1,hc2,hc3,hc4,hc5,hc6⟩ := hc
      split at hh
      ·rename_i xs hxs
       have hid := hget_some ho
       obtain ⟨b,as,g1,gw,g2,g3⟩ := hS.obj id _ hid
       have hl := g3.1
       have hblt := lt_of_some g2
       have hmul := Nat.mul_le_mul_right sz hc3
       have hch := decAll_ok hC (chunkS_ok (n := len) (z := sz) (g3.drop off) (by simp; omega)) hxs
       rw [hc1] at hch
       have hxl : xs.length = len := by
        have := hch.1
        rw [chunk_len] at this
        simpa using this
       have hnot : ∀ (j' : Nat),τ[j']? ≠ some (some id) := by
        intro j' e'
        have : some id ∈ τ := qp e'
        simp [this] at hc6
       have hrows : RowsAt E m xs as off := by
        intro i y jj xx aa q1 q2 q3
        have hi : i < len := by have := lt_of_some q1; omega
        have hrow := hch.2 i (C.enc m y) ((as.drop off |>.drop (i * sz)).take sz) (by simp [q1]) (by rw [← hc1]; exact chunk_get hi)
        have hjj : jj < sz := by have := lt_of_some q2; rw [hC.len] at this; omega
        refine hrow.1.2 jj xx aa q2 ?_
        rw [qx,if_pos hjj,qw,qw,hc1,← Nat.add_assoc]
        exact q3
       have hput := hS.put (H' := H) id (.rows m xs (ex || Nat.beq cap len) id) (some b) (.sl sz b off len cap ex) id (qf _) (fun b _ hne => (hne rfl).elim) (fun b' hb => by
        simp only [qa] at hb
        subst hb
        exact ⟨hblt,hS.low id b (Nat.zero_le _) g1,fun cs hfr => (hS.fr _ cs hfr).2 id _ hid g1,fun i o hi hio hbi => hi (hS.inj i id o _ _ hio hid hbi g1),.inr gw⟩)
        (fun hle => .inr ⟨b,off,cap,ex,as,by simp only [Env.put,if_true,hc1,hxl],by simp [Env.put],by simp [Env.put],g2,by omega,by rw [← hc1]; omega,hc5.imp_right fun h => by rw [← hc1]; omega,fun hf => by
         rw [Bool.or_eq_true,Nat.beq_eq] at hf
         rw [hxl]
         exact hf,hrows.mono hle.le⟩)
       obtain ⟨τ1,W1,h1,h2,h3,h4,h5⟩ := bindX_ok hh hτ
       have hv1 : ∀ (j i : Nat),τ[j]? = some (some i) → i < (h.set id none ++ [some (Obj.rows m xs (ex || Nat.beq cap len) id)]).length := fun j i hj => by have := hv j i hj; simp; omega
       have hL := (ih h1 hput.2 h4 (pre hv1 h5) (hs.put (fun i hi => (hput.1.old i hi).1) fun i o hi => by
        rcases qm i h.length with k | k
        ·rw [qg (by simpa using k),qh] at hi
         split at hi
         ·split at hi <;> cases hi
         ·exact .inl ⟨k,o,hi⟩
        ·rw [qk (by simpa using k)] at hi
         have : i = h.length := by have := lt_of_some hi; simp at this; omega
         subst this
         exact .inr (.inr ⟨id,_,hid,by simp [Env.put,g1]⟩))).bind (τ := τ) (p := (.sl sz id off len cap ex,.R j)) h2 h3 h5 (fun E' τ' Sl' hle hj a ha => by
        cases ha with
        | sl hβ =>
         have e1 := hle.β _ _ (hput.1.le.β _ _ g1)
         rw [e1] at hβ
         cases hβ
         exact .R (by rw [via_γ hj]; exact hle.γ _ _ (by simp [Env.put])) rfl)
       obtain ⟨E',τ',h',Sl',k1,k2,k3,k4,k5,k6,k7,k8,k9,ks⟩ := hL
       simp only [qo,qn,List.length_nil,qz] at k1 k2
       refine ⟨E',τ',h',Sl',hput.1.trans (by omega) (qf _) k1,by omega,k3,k4,k5,k6,k7,k8,fun j' id' hj' => ?_,ks⟩
       rw [k9 j' id' hj',qg (by rw [qz]; exact hv j' id' hj'),qh,if_neg (fun e => hnot j' (by rw [e]; exact hj'))]
      ·exact qa1 hh
     ·exact qa1 hh
    ·exact qa1 hh
   ·exact qa1 hh
  ·rename_i j
   split at hh
   ·rename_i id
    refine bind hh fun E' τ' Sl' _ hj a ha => ?_
    cases ha with
    | mapr hβ => exact .mapr (by rw [via_β hj]; exact hβ)
   ·exact qa1 hh
theorem via_sim (hC : CodecOk C) {E' : Env} {lo : Nat} {h' : SH C} {H : Heap} {fh : List (Obj C.T)} {τ' : Ren} {Sl' : Nat → List AVal → Prop} (hsl : SlOk E' h' H Sl') (hS : SimH E' lo 0 h' H) (hτ : RenOk τ') (hl : τ'.length = fh.length) (hall : ∀ (j : Nat),j < τ'.length → ∃ id,τ'[j]? = some (some id)) (hg : ∀ (j id : Nat),τ'[j]? = some (some id) → ObjGood E' h' fh τ' Sl' j id) :
 SimH (E'.via τ' Sl') lo 0 (fh.map some) H := by
 have live : ∀ (j id : Nat),τ'[j]? = some (some id) → ∃ o,h'[id]? = some (some o) := by
  intro j id hj
  rcases hg j id hj with ⟨es,es0,h1,_⟩ | ⟨cs,cs0,h1,_⟩ | ⟨n,l,full,full0,root,h1,_⟩
  ·exact ⟨_,h1⟩
  ·exact ⟨_,h1⟩
  ·exact ⟨_,h1⟩
 have hβ : ∀ (j b : Nat),(E'.via τ' Sl').β j = some b → ∃ id,τ'[j]? = some (some id) ∧ E'.β id = some b := by
  intro j b hb
  simp only [Env.via] at hb
  cases hj : τ'[j]? with
  | none => rw [hj] at hb; cases hb
  | some o =>
   cases o with
   | none => rw [hj] at hb; cases hb
   | some id => rw [hj] at hb; exact ⟨id,rfl,hb⟩
 have uniq : ∀ (j j' b : Nat),(E'.via τ' Sl').β j = some b → (E'.via τ' Sl').β j' = some b → j = j' := by
  intro j j' b h1 h2
  obtain ⟨id,g1,g2⟩ := hβ j b h1
  obtain ⟨id',g3,g4⟩ := hβ j' b h2
  obtain ⟨o,ho⟩ := live j id g1
  obtain ⟨o',ho'⟩ := live j' id' g3
  have := hS.inj id id' o o' b ho ho' g2 g4
  subst this
  exact hτ j j' id g1 g3
 have hω : ∀ (j b : Nat),(E'.via τ' Sl').β j = some b → (E'.via τ' Sl').ω b = some j := by
  intro j b hb
  have hex : ∃ j,((τ'[j]?).join).bind E'.β = some b := ⟨j,hb⟩
  have e : (E'.via τ' Sl').ω b = some (Classical.choose hex) := by
   simp only [Env.via]
   rw [dif_pos hex]
  rw [e]
  congr 1
  exact uniq _ _ b (Classical.choose_spec hex) hb
 have look : ∀ (j : Nat) (o : Obj C.T),(fh.map some)[j]? = some (some o) → fh[j]? = some o ∧ ∃ id,τ'[j]? = some (some id) := by
  intro j o hj
  rw [List.getElem?_map,qd] at hj
  obtain ⟨o',h1,h2⟩ := hj
  cases h2
  exact ⟨h1,hall j (by rw [hl]; exact lt_of_some h1)⟩
 refine ⟨?_, ?_, ?_, ?_, ?_, ?_, ?_, ?_,Nat.zero_le _,hS.ll⟩
 ·intro j o hj
  obtain ⟨h1,id,h2⟩ := look j o hj
  rcases hg j id h2 with ⟨es,es0,g1,g2,g34⟩ | ⟨cs,cs0,g1,g2,g3,g4⟩ | ⟨n,l,full,full0,root,g1,g2,g3⟩
  ·rw [h1] at g2
   cases g2
   obtain ⟨b,as,k1,k2,k3,k4⟩ := hS.obj id _ g1
   have hb : (E'.via τ' Sl').β j = some b := by rw [via_β h2]; exact k1
   rcases g34 with ⟨g3,g4⟩ | ⟨g3,g4⟩
   ·exact ⟨b,as,hb,hω j b hb,k3,mp_zip g3 g4 k4⟩
   ·exact ⟨b,as,hb,hω j b hb,k3,mp_pos g3 g4 k4⟩
  ·rw [h1] at g2
   cases g2
   obtain ⟨b,as,k1,k2,k3,k4⟩ := hS.obj id _ g1
   have hb : (E'.via τ' Sl').β j = some b := by rw [via_β h2]; exact k1
   exact ⟨b,as,hb,hω j b hb,k3,good_zip g3 g4 k4⟩
  ·rw [h1] at g2
   cases g2
   rcases hS.obj id _ g1 with ⟨rfl,k1,a,k2,k3⟩ | ⟨b,off,cap,ex,as,k1,k2,k3,k4,k5,k6,k7,k8,k9⟩
   ·exact .inl ⟨rfl,by rw [via_β h2]; exact k1,a,by rw [via_γ h2]; exact k2,k3⟩
   ·have hb : (E'.via τ' Sl').β j = some b := by rw [via_β h2]; exact k2
    refine .inr ⟨b,off,cap,ex,as,by rw [via_γ h2]; exact k1,hb,hω j b hb,k4,k5,k6,k7,fun hf => k8 (g3 hf), ?_⟩
    intro i y jj x a q1 q2 q3
    exact noId_er hC (E := E') (E' := E'.via τ' Sl') (fun _ _ h => .inl h) (k9 i y jj x a q1 q2 q3) (List.all_eq_true.1 (hC.ids n y) x (qp q2))
 ·intro j j' o o' b _ _ h1 h2
  exact uniq j j' b h1 h2
 ·intro b cs hf
  rcases hf with hf | hf
  ·refine ⟨(hS.fr b cs hf).1,fun j o _ hb => ?_⟩
   obtain ⟨id,g1,g2⟩ := hβ j b hb
   obtain ⟨o',ho'⟩ := live j id g1
   exact (hS.fr b cs hf).2 id o' ho' g2
  ·refine ⟨(hsl b cs hf).1,fun j o _ hb => ?_⟩
   obtain ⟨id,g1,g2⟩ := hβ j b hb
   obtain ⟨o',ho'⟩ := live j id g1
   exact (hsl b cs hf).2 id o' ho' g2
 ·intro j hj
  have : τ'[j]? = none := by rw [List.getElem?_eq_none_iff,hl]; simpa using hj
  simp [Env.via,this]
 ·intro j b _ hb
  obtain ⟨id,_,g2⟩ := hβ j b hb
  exact hS.low id b (Nat.zero_le _) g2
 ·intro j b hb
  obtain ⟨id,_,g2⟩ := hβ j b hb
  exact hS.bnd id b g2
 ·intro b r hr
  have : ∃ j,(E'.via τ' Sl').β j = some b := by
   simp only [Env.via] at hr
   split at hr
   ·rename_i hex; exact hex
   ·cases hr
  obtain ⟨j,hb⟩ := this
  obtain ⟨id,g1,g2⟩ := hβ j b hb
  obtain ⟨r',hr'⟩ := hS.βω id b g2
  obtain ⟨o',ho'⟩ := live j id g1
  exact ⟨(hS.own b r' hr').1,fun cs hf => hf.elim ((hS.own b r' hr').2 cs) fun hf => (hsl b cs hf).2 id o' ho' g2⟩
 ·intro j b hb
  exact ⟨j,hω j b hb⟩
end Go.Sy

/- A function's run, from its entry and from each of its cuts to the next one or to its end. Generic: over any program. -/
namespace Go.Sy
open Go.Am
set_option linter.unusedVariables false
set_option linter.unusedSimpArgs false
variable {C : Codec} {E : Env}
structure CutD (C : Codec) where
 St : Type
 I : St → Prop
 m : St → Nat
 regs : St → List (Nat × SV C.T)
 objs : St → List (Obj C.T)
structure FnD (C : Codec) where
 cuts : List (Nat × CutD C)
 res : SV C.T
 objs : List (Obj C.T)
noncomputable def leAll (r : SR C) (h : SH C) (regs : List (Nat × SV C.T)) (objs : List (Obj C.T)) (K : Tree) : Tree :=
 leW objs 1000 (regs.map fun q => (r.get q.1,q.2)) h (List.replicate objs.length none) fun τ _ => bif τ.all Option.isSome then K else .stuck "an object that nothing leads to"
noncomputable def famX (m0 : Option Nat) (c : CutD C) (r : SR C) (h : SH C) : Tree :=
 .ex c.St fun s => leAll r h (c.regs s) (c.objs s) (.need (c.I s) (match m0 with
  | none => .ok
  | some m => .need (c.m s < m) .ok))
noncomputable def candX (m0 : Option Nat) : List (Nat × CutD C) → SR C → SH C → Tree
 | [],_,_ => .stuck "no family"
 | [p],r,h => famX m0 p.2 r h
 | p :: q :: l,r,h => .ex Bool fun b => .fork b (famX m0 p.2 r h) (candX m0 (q :: l) r h)
noncomputable def chkX (nt : Nat) (D : FnD C) (m0 : Option Nat) : CutX C := fun rid => match D.cuts.filter fun p => Nat.beq p.1 rid with
 | [] => none
 | p :: l => some fun r h => bif Nat.beq r.n nt then candX m0 (p :: l) r h else .stuck "frame"
theorem candX_ok {m0 : Option Nat} {r : SR C} {h : SH C} : ∀ {l : List (Nat × CutD C)},(candX m0 l r h).holds → ∃ p,p ∈ l ∧ (famX m0 p.2 r h).holds
 | [],hh => (stuck_no hh).elim
 | [p],hh => ⟨p,List.mem_singleton.2 rfl,hh⟩
 | p :: q :: l,⟨b,hb⟩ => by
  rcases fork_cases hb with ⟨_,h1⟩ | ⟨_,h1⟩
  ·exact ⟨p,List.mem_cons_self,h1⟩
  ·obtain ⟨p',h2,h3⟩ := candX_ok (l := q :: l) h1
   exact ⟨p',List.mem_cons_of_mem _ h2,h3⟩
noncomputable def finX (P : Program) (rs : List ResultVar) (D : FnD C) : FinX C := fun _ r h => resultsX P r h rs fun vs =>
 leW D.objs 1000 [(tupledS vs,D.res)] h (List.replicate D.objs.length none) fun τ _ => bif τ.all Option.isSome then .ok else .stuck "an object that nothing leads to"
noncomputable def entryX (F : Cf C) (ctr : FuncId → Option (Ctr C)) (N : Nat) (fn : Func) (body : Code) (D : FnD C) (args : List (SV C.T)) : Tree :=
 symx F ctr N (chkX fn.ntmps D none) 0 [.c body] (SR.frame args fn.ntmps) [] (finX F.S.P fn.results.toList D)
noncomputable def cutVC (F : Cf C) (ctr : FuncId → Option (Ctr C)) (N : Nat) (fn : Func) (body : Code) (D : FnD C) (rid : Nat) (c : CutD C) (s : c.St) : Tree :=
 match (allK body []).find? fun p => Nat.beq p.1 rid with
 | some (_,.c (.region _ ops draw) :: k) => regionX F (callX F ctr (symx F ctr N)) 0 ops draw (SR.only fn.ntmps (c.regs s)) ((c.objs s).map some) fun r h => symx F ctr N (chkX fn.ntmps D (some (c.m s))) 0 k r h (finX F.S.P fn.results.toList D)
 | _ => .stuck "no such cut"
def nodupB : List Nat → Bool
 | [] => true
 | a :: l => !l.any (Nat.beq a) && nodupB l
theorem nodupB_uniq {α : Type} : ∀ {l : List (Nat × α)},nodupB (l.map (·.1)) = true → ∀ {i : Nat} {x y : α},(i,x) ∈ l → (i,y) ∈ l → x = y
 | [],_,i,x,y,h,_ => by simp at h
 | (j,z) :: l,hn,i,x,y,hx,hy => by
  simp only [List.map_cons,nodupB,qj,Bool.not_eq_true'] at hn
  have no : ∀ w,(j,w) ∉ l := by
   intro w hw
   have : (l.map (·.1)).any (Nat.beq j) = true := by
    rw [List.any_eq_true]
    exact ⟨j,List.mem_map.2 ⟨(j,w),hw,rfl⟩,by rw [Nat.beq_eq]⟩
   rw [this] at hn
   cases hn.1
  rcases List.mem_cons.1 hx with e1 | hx <;> rcases List.mem_cons.1 hy with e2 | hy
  ·cases e1; cases e2; rfl
  ·cases e1; exact (no _ hy).elim
  ·cases e2; exact (no _ hx).elim
  ·exact nodupB_uniq hn.2 hx hy
theorem only_sim {n : Nat} {ρ : List AVal} (hl : ρ.length = n) (hs : n ≤ 512) : ∀ {regs : List (Nat × SV C.T)},(∀ q,q ∈ regs → Er E q.2 (ρ.getD q.1 undefA)) → SimR E (SR.only n regs) ρ
 | [],_ => by
  refine ⟨full_full _ _,hs,hl,fun j => ?_⟩
  simp only [SR.only,SR.get,get_full,Option.getD_some]
  cases hb : Nat.blt j n with
  | true => exact .any
  | false =>
   have hj : ¬ j < n := by intro x; rw [← Nat.blt_eq,hb] at x; cases x
   rw [qi,qr (by omega)]
   exact .a _
 | (i,v) :: regs,h => (only_sim hl hs fun q hq => h q (List.mem_cons_of_mem _ hq)).self (h (i,v) (by simp))
theorem all_some {τ : Ren} (h : τ.all Option.isSome = true) : ∀ (j : Nat),j < τ.length → ∃ id,τ[j]? = some (some id) := by
 intro j hj
 have := List.all_eq_true.1 h τ[j] (List.getElem_mem hj)
 obtain ⟨id,hid⟩ := Option.isSome_iff_exists.1 this
 exact ⟨id,by rw [qt hj,hid]⟩
theorem none_ren {n : Nat} (j id : Nat) : ¬ (List.replicate n (none : Option Nat))[j]? = some (some id) := by
 intro h
 rw [List.getElem?_replicate] at h
 split at h <;> cases h
theorem leAll_ok (hC : CodecOk C) {lo : Nat} {H : Heap} {r : SR C} {ρ : List AVal} {h : SH C} {regs : List (Nat × SV C.T)} {objs : List (Obj C.T)} {K : Tree} (hR : SimR E r ρ) (hS : SimH E lo 0 h H) (hh : (leAll r h regs objs K).holds) :
 K.holds ∧ ∃ E',SimR E' (SR.only r.n regs) ρ ∧ SimH E' lo 0 (objs.map some) H := by
 unfold leAll at hh
 obtain ⟨E',τ',h',Sl',k1,k2,k3,k4,k5,k6,k7,k8,k9,ks,_⟩ := leW_ok (Sl := fun _ _ => False) hC hh hS (fun j j' id h1 _ => (none_ren j id h1).elim) (fun j id h1 => (none_ren j id h1).elim) (fun _ _ h => h.elim)
 replace k6 : (bif τ'.all Option.isSome then K else Tree.stuck "an object that nothing leads to").holds := k6
 cases ha : τ'.all Option.isSome with
 | false => rw [ha] at k6; exact qa1 k6
 | true =>
  rw [ha] at k6
  refine ⟨k6,E'.via τ' Sl', ?_,via_sim hC ks k3 k4 (by rw [k5.1]; simp) (all_some ha) fun j id hj => (k8 j id hj).resolve_left (none_ren j id)⟩
  refine only_sim hR.len hR.small fun q hq => ?_
  exact k7 (r.get q.1,q.2) (List.mem_map.2 ⟨q,hq,rfl⟩) _ ((hR.val q.1).mono k1.le)
theorem leRes_ok (hC : CodecOk C) {lo : Nat} {H : Heap} {h : SH C} {x : SV C.T} {a : AVal} {res : SV C.T} {objs : List (Obj C.T)} (hx : Er E x a) (hS : SimH E lo 0 h H) (hh : (leW objs 1000 [(x,res)] h (List.replicate objs.length none) fun τ _ => bif τ.all Option.isSome then .ok else .stuck "an object that nothing leads to").holds) :
 ∃ E',Er E' res a ∧ SimH E' lo 0 (objs.map some) H := by
 obtain ⟨E',τ',h',Sl',k1,k2,k3,k4,k5,k6,k7,k8,k9,ks,_⟩ := leW_ok (Sl := fun _ _ => False) hC hh hS (fun j j' id h1 _ => (none_ren j id h1).elim) (fun j id h1 => (none_ren j id h1).elim) (fun _ _ h => h.elim)
 replace k6 : (bif τ'.all Option.isSome then Tree.ok else Tree.stuck "an object that nothing leads to").holds := k6
 cases ha : τ'.all Option.isSome with
 | false => rw [ha] at k6; exact qa1 k6
 | true =>
  exact ⟨E'.via τ' Sl',k7 (x,res) (by simp) _ (hx.mono k1.le),via_sim hC ks k3 k4 (by rw [k5.1]; simp) (all_some ha) fun j id hj => (k8 j id hj).resolve_left (none_ren j id)⟩
theorem find_ok.{u} {α : Type u} {l : List (Nat × α)} {rid : Nat} {p : Nat × α} (h : (l.find? fun p => Nat.beq p.1 rid) = some p) : p ∈ l ∧ p.1 = rid := by
 refine ⟨List.mem_of_find?_eq_some h, ?_⟩
 have := List.find?_some h
 simpa using this
theorem fn_runsP {F : Cf C} (hC : CodecOk C) (hX : ExtNo F.S F.noExt) (hL : HookLow F.S) {ctr : FuncId → Option (Ctr C)} (hctr : CtrOk F.S ctr) {f : FuncId} {fn : Func} {body : Code} (hf : F.S.P.funcs[f]? = some fn) (hb : fn.body = some body) (hk : F.S.hook f = none)
 (D : FnD C) (N : Nat) {args : List (SV C.T)} (hn : args.length ≤ fn.ntmps) (hs : fn.ntmps ≤ 512) (hnd : nodupB ((allK body []).map (·.1)) = true)
 (hentry : (entryX F ctr N fn body D args).holds) (hcuts : ∀ p,p ∈ D.cuts → ∀ s,p.2.I s → (cutVC F ctr N fn body D p.1 p.2 s).holds)
 {lo : Nat} {H : Heap} {av : List AVal} (hS : SimH E ((F.S.pol f).lo lo H) 0 ([] : SH C) H) (hA : Ers E args av) :
 ∃ n v H' E',callA F.S (execA F.S n) lo f av H = finish (F.S.pol f) H v H' ∧ SimH E' ((F.S.pol f).lo lo H) 0 (D.objs.map some) H' ∧ Er E' D.res v := by
 -- where a run ends
 let Q : AExit → List AVal → Heap → Prop := fun _ ρ' H' => ∃ r' h' E',(finX F.S.P fn.results.toList D .ret r' h').holds ∧ SimR E' r' ρ' ∧ SimH E' ((F.S.pol f).lo lo H) 0 h' H'
 have hcut' : ∀ (m0 : Option Nat) {id : Nat} {chk : SR C → SH C → Tree},chkX fn.ntmps D m0 id = some chk → ∀ {r : SR C} {ρ : List AVal} {h : SH C} {lo : Nat} {H : Heap} {E1 : Env},(chk r h).holds → SimR E1 r ρ → SimH E1 lo 0 h H →
  r.n = fn.ntmps ∧ ∃ p,p ∈ D.cuts ∧ p.1 = id ∧ ∃ s,p.2.I s ∧ (∀ m,m0 = some m → p.2.m s < m) ∧ ∃ E',SimR E' (SR.only r.n (p.2.regs s)) ρ ∧ SimH E' lo 0 ((p.2.objs s).map some) H := by
  intro m0 id chk hc
  unfold chkX at hc
  split at hc
  ·cases hc
  ·rename_i p0 l0 hfilter
   simp only [qa] at hc
   subst hc
   intro r ρ h lo H E1 hh hR hS
   simp only at hh
   cases hb : Nat.beq r.n fn.ntmps with
   | false => rw [hb] at hh; exact qa1 hh
   | true =>
   rw [hb] at hh
   rw [Nat.beq_eq] at hb
   obtain ⟨p,hp,s,hs⟩ := candX_ok hh
   rw [← hfilter,List.mem_filter] at hp
   obtain ⟨⟨g1,g2⟩,g3⟩ := leAll_ok hC hR hS hs
   refine ⟨hb,p,hp.1,by simpa using hp.2,s,g1,fun m hm => ?_,g3⟩
   subst hm
   exact g2.1
 have cut : ∀ (M : Nat) (p : Nat × CutD C) (s : p.2.St),p ∈ D.cuts → p.2.I s → p.2.m s < M → ∀ (k : List Kt),(p.1,k) ∈ allK body [] → SubK (allK body []) k → ∀ (E1 : Env) (ρ1 : List AVal) (H1 : Heap),SimR E1 (SR.only fn.ntmps (p.2.regs s)) ρ1 → SimH E1 ((F.S.pol f).lo lo H) 0 ((p.2.objs s).map some) H1 →
  ∃ x ρ' H',RunsK F.S ((F.S.pol f).lo lo H) k ρ1 H1 (x,ρ',H') ∧ Q x ρ' H' := by
  intro M
  induction M with
  | zero => intro p s _ _ hm; omega
  | succ M ih =>
   intro p s hpc hI hm k hkm hsub E1 ρ1 H1 hR1 hS1
   have hv := hcuts p hpc s hI
   unfold cutVC at hv
   split at hv
   ·rename_i rid id ops draw k0 hfind
    obtain ⟨hmem,hrid⟩ := find_ok hfind
    simp only at hrid
    subst hrid
    have hkk := nodupB_uniq hnd hkm hmem
    subst hkk
    obtain ⟨ρ2,H2,r2,h2,E2,q1,q2,q3,q4,q5,q6,q7⟩ := regionX_ok (id := id) hC hX hL (callX_ok hC hctr (symx_ok hC hX hL hctr N)) hR1 hS1 hv
    obtain ⟨x,ρ',H',g1,g2⟩ := symx_ok hC hX hL hctr N _ _ _ _ _ _ _ _ _ _ (allK body []) Q q7 q4 q5 hsub.2
     (fun x r' h' E' ρ' H' p1 p2 p3 p4 p5 p6 => ⟨r',h',E',p1,p2,p3⟩)
     (fun id' chk k' r' h' E' ρ' H' p0 p00 p000 p1 p2 p3 p4 p5 p6 => by
      obtain ⟨hr'n,p',w1,w2,s',w4,w5,E'',w7,w8⟩ := hcut' _ p0 p1 p2 p3
      rw [hr'n] at w7
      exact ih p' s' w1 w4 (by have := w5 _ rfl; omega) k' (by rw [w2]; exact p00) p000 E'' ρ' H' w7 w8)
    exact ⟨x,ρ',H',.c q1 g1,g2⟩
   ·exact qa1 hv
 have hR0 := frame_sim hA (n := fn.ntmps) (by rw [← hA.1]; exact hn) hs
 have hsub0 : SubK (allK body []) [.c body] := ⟨fun y hy => hy,trivial⟩
 obtain ⟨x,ρ',H',g1,g2⟩ := symx_ok hC hX hL hctr N _ _ _ _ _ _ _ _ _ _ (allK body []) Q hentry hR0 hS hsub0
  (fun x r' h' E' ρ' H' p1 p2 p3 p4 p5 p6 => ⟨r',h',E',p1,p2,p3⟩)
  (fun id' chk k' r' h' E' ρ' H' p0 p00 p000 p1 p2 p3 p4 p5 p6 => by
   obtain ⟨hr'n,p',w1,w2,s',w4,w5,E'',w7,w8⟩ := hcut' _ p0 p1 p2 p3
   rw [hr'n] at w7
   exact cut (p'.2.m s' + 1) p' s' w1 w4 (by omega) k' (by rw [w2]; exact p00) p000 E'' ρ' H' w7 w8)
 obtain ⟨r',h',E',w1,w2,w3⟩ := g2
 obtain ⟨hrun,hne⟩ := g1.out
 obtain ⟨vs,as,e1,e2,e3⟩ := resultsX_ok (S := F.S) hC w2 w3 w1
 obtain ⟨E'',e5,e6⟩ := leRes_ok hC (tupled_er e2) w3 e3
 obtain ⟨m,hm⟩ := hrun
 refine ⟨m,tupled as,H',E'', ?_,e6,e5⟩
 simp only [callA,hk,hf,hb]
 rw [hm]
 cases x with
 | exit i => exact (hne i rfl).elim
 | normal => simp only [e1]
 | ret => simp only [e1]
theorem fn_runs {F : Cf C} (hC : CodecOk C) (hX : ExtNo F.S F.noExt) (hL : HookLow F.S) {ctr : FuncId → Option (Ctr C)} (hctr : CtrOk F.S ctr) {f : FuncId} {fn : Func} {body : Code} (hf : F.S.P.funcs[f]? = some fn) (hb : fn.body = some body) (hk : F.S.hook f = none) (hp : F.S.pol f ≠ .pure)
 (D : FnD C) (N : Nat) {args : List (SV C.T)} (hn : args.length ≤ fn.ntmps) (hs : fn.ntmps ≤ 512) (hnd : nodupB ((allK body []).map (·.1)) = true)
 (hentry : (entryX F ctr N fn body D args).holds) (hcuts : ∀ p,p ∈ D.cuts → ∀ s,p.2.I s → (cutVC F ctr N fn body D p.1 p.2 s).holds)
 {lo : Nat} {H : Heap} {av : List AVal} (hS : SimH E ((F.S.pol f).lo lo H) 0 ([] : SH C) H) (hA : Ers E args av) :
 ∃ n v H' E',callA F.S (execA F.S n) lo f av H = some (v,H') ∧ SimH E' ((F.S.pol f).lo lo H) 0 (D.objs.map some) H' ∧ Er E' D.res v := by
 obtain ⟨n,v,H',E',h1,h2⟩ := fn_runsP hC hX hL hctr hf hb hk D N hn hs hnd hentry hcuts hS hA
 refine ⟨n,v,H',E', ?_,h2⟩
 rw [h1]
 cases hpp : F.S.pol f with
 | keep => rfl
 | fresh => rfl
 | pure => exact (hp hpp).elim
end Go.Sy

/- Contracts of functions that make their own: taken at a call, owed by the function's own run. Generic: over any program. -/
namespace Go.Sy
open Go.Am
set_option linter.unusedVariables false
set_option linter.unusedSimpArgs false
variable {C : Codec} {E : Env}
inductive Pat (C : Codec) where
 | int (k : IntKind)
 | bool
 | str
 | tl (n : Nat)
 | row (n : Nat)
 | frow (n : Nat)
 | fskip (k n : Nat)
 | exact
 | lit (X : Type) (f : X → AVal)
def Pat.ty : Pat C → Type
 | .int _ => Int
 | .bool => Bool
 | .str => List UInt8
 | .tl n => List (C.T n)
 | .row n => C.T n
 | .frow n => C.T n
 | .fskip _ n => C.T n
 | .exact => AVal
 | .lit X _ => X
def Pat.sv : (p : Pat C) → p.ty → SV C.T
 | .int k,n => .i k n
 | .bool,b => .b b
 | .str,s => .s s
 | .tl n,l => .tl n l
 | .row n,x => .agg (C.enc n x)
 | .frow n,x => .fp (C.enc n x)
 | .fskip k n,x => .fp (List.replicate k .any ++ C.enc n x)
 | .exact,v => .a v
 | .lit _ f,y => .a (f y)
def viewL {T : Nat → Type} (v : Option Nat → SV T → Option (SV T)) : List (Option Nat) → List (SV T) → Option (List (SV T))
 | [],[] => some []
 | s :: ss,x :: xs => match v s x with
  | some y => match viewL v ss xs with
   | some ys => some (y :: ys)
   | none => none
  | none => none
 | _,_ => none
def rowsV (v : Option Nat → SV C.T → Option (SV C.T)) (n : Nat) : List (List (SV C.T)) → Option (List (C.T n))
 | [] => some []
 | r :: rs => match viewL v (C.shape n) r with
  | some r' => match C.dec n r' with
   | some y => match rowsV v n rs with
    | some ys => some (y :: ys)
    | none => none
   | none => none
  | none => none
def viewC (h : SH C) : Nat → Option Nat → SV C.T → Option (SV C.T)
 | 0,_,_ => none
 | _ + 1,none,x => bif noId x then some x else none
 | f + 1,some m,x => match x with
  | .tl m' l => some (.tl m' l)
  | .a .nils => some (.tl m [])
  | .R id => match hget h id with
   | some (.rows m' l _ _) => some (.tl m' l)
   | _ => none
  | .sl sz id off len cap _ => match hget h id with
   | some (.cells cs) => if sz = C.sz m ∧ off + len * sz ≤ cs.length ∧ len ≤ cap then (match rowsV (viewC h f) m (chunkS sz len (cs.drop off)) with | some l => some (.tl m l) | none => none) else none
   | _ => none
  | .a (.list sz rows _) => if sz = C.sz m ∧ (rows.all fun r => r.length == sz) then (match rowsV (viewC h f) m (rows.map (List.map .a)) with | some l => some (.tl m l) | none => none) else none
  | _ => none
def takeTl (h : SH C) (n : Nat) (x : SV C.T) (K : List (C.T n) → Tree) : Tree :=
 match viewC h 4 (some n) x with
 | some (.tl m l) => if e : m = n then K (castL e l) else .stuck "take: rows of another kind"
 | _ => .stuck "take: tl"
def takeRow (h : SH C) (n : Nat) (cs : List (SV C.T)) (K : C.T n → Tree) : Tree :=
 match viewL (viewC h 4) (C.shape n) cs with
 | some cs' => opt (C.dec n cs') "take: row" K
 | none => .stuck "take: row"
def takeFrow (h : SH C) (n : Nat) (x : SV C.T) (K : C.T n → Tree) : Tree :=
 match x with
 | .fp cs => if C.sz n ≤ cs.length then takeRow h n (cs.take (C.sz n)) K else .stuck "take: frow"
 | .a (.ipt as) => if C.sz n ≤ as.length then takeRow h n ((as.take (C.sz n)).map .a) K else .stuck "take: frow"
 | .ptr id off => match hget h id with
  | some (.cells cs) => if off + C.sz n ≤ cs.length then takeRow h n ((cs.drop off).take (C.sz n)) K else .stuck "take: frow"
  | _ => .stuck "take: gone"
 | _ => .stuck "take: frow"
def takeSkip (h : SH C) (k n : Nat) (x : SV C.T) (K : C.T n → Tree) : Tree :=
 match x with
 | .ptr id off => match hget h id with
  | some (.cells cs) => if off + k + C.sz n ≤ cs.length then takeRow h n ((cs.drop (off + k)).take (C.sz n)) K else .stuck "take: fskip"
  | _ => .stuck "take: gone"
 | _ => .stuck "take: fskip"
def Pat.take (h : SH C) : (p : Pat C) → SV C.T → (p.ty → Tree) → Tree
 | .int k,x,K => match intOf x with
  | some (k',n) => if k' = k then K n else .stuck "take: kind"
  | none => .stuck "take: int"
 | .bool,x,K => match boolOf x with
  | some b => K b
  | none => .stuck "take: bool"
 | .str,x,K => match strOf x with
  | some s => K s
  | none => .stuck "take: str"
 | .tl n,x,K => takeTl h n x K
 | .row n,x,K => match x with
  | .agg cs => takeRow h n cs K
  | .a (.agg as) => takeRow h n (as.map .a) K
  | _ => .stuck "take: row"
 | .frow n,x,K => takeFrow h n x K
 | .fskip k n,x,K => takeSkip h k n x K
 | .exact,x,K => match litV x with
  | some v => K v
  | none => .stuck "take: exact"
 | .lit X f,x,K => match litV x with
  | some v => .ex X fun y => .need (v = f y) (K y)
  | none => .stuck "take: lit"
def tys : List (Pat C) → Type
 | [] => Unit
 | p :: ps => p.ty × tys ps
def argsS : (ps : List (Pat C)) → tys ps → List (SV C.T)
 | [],_ => []
 | p :: ps,x => p.sv x.1 :: argsS ps x.2
def takeAll (h : SH C) : (ps : List (Pat C)) → List (SV C.T) → (tys ps → Tree) → Tree
 | [],[],K => K ()
 | p :: ps,x :: xs,K => p.take h x fun y => takeAll h ps xs fun ys => K (y,ys)
 | _,_,_ => .stuck "take: how many"
mutual
def shiftS {T : Nat → Type} (d : Nat) : SV T → SV T
 | .agg cs => .agg (shiftL d cs)
 | .tup cs => .tup (shiftL d cs)
 | .iface t v => .iface t (shiftS d v)
 | .ptr id off => .ptr (id + d) off
 | .sl sz id off len cap ex => .sl sz (id + d) off len cap ex
 | .R id => .R (id + d)
 | .a v => .a v
 | .i k n => .i k n
 | .b x => .b x
 | .s x => .s x
 | _ => .any
def shiftL {T : Nat → Type} (d : Nat) : List (SV T) → List (SV T)
 | [] => []
 | x :: xs => shiftS d x :: shiftL d xs
end
mutual
def pureS {T : Nat → Type} : SV T → Bool
 | .agg cs => pureL cs
 | .tup cs => pureL cs
 | .iface _ v => pureS v
 | .ptr _ _ => true
 | .sl _ _ _ _ _ _ => true
 | .R _ => true
 | .a _ => true
 | .i _ _ => true
 | .b _ => true
 | .s _ => true
 | _ => false
def pureL {T : Nat → Type} : List (SV T) → Bool
 | [] => true
 | x :: xs => pureS x && pureL xs
end
def shiftO (d : Nat) : Obj C.T → Obj C.T
 | .cells cs => .cells (shiftL d cs)
 | .rows n l full root => .rows n l full (root + d)
 | .mp es => .mp es
 | .it s pos => .it s pos
def pureO : Obj C.T → Bool
 | .cells cs => pureL cs
 | .rows n _ _ _ => C.flat n
 | .mp _ => false
 | .it _ _ => false
structure CtrD (C : Codec) where
 pats : List (Pat C)
 pre : tys pats → Prop
 res : tys pats → SV C.T
 objs : tys pats → List (Obj C.T)
def mkCtr (D : CtrD C) : Ctr C := fun wlo args h K => takeAll h D.pats args fun x => .need (D.pre x) (K (shiftS h.length (D.res x)) (h ++ (D.objs x).map fun o => some (shiftO h.length o)))
def away (H : Heap) : Env := ⟨fun _ => none,fun _ => none,fun _ => none,fun b cs => H[b]? = some (some (.cells cs))⟩
theorem away_sim {H : Heap} {lo : Nat} (hl : lo ≤ H.length) : SimH (away H) lo 0 ([] : SH C) H where
 obj := fun id o h => by simp at h
 inj := fun id id' o o' b h => by simp at h
 fr := fun b cs hf => ⟨hf,fun id o h => by simp at h⟩
 fresh := fun id _ => ⟨rfl,rfl⟩
 low := fun id b _ h => by cases h
 bnd := fun id b h => by cases h
 own := fun b r h => by cases h
 βω := fun id b h => by cases h
 wl := Nat.zero_le _
 ll := hl
theorem to_away (hC : CodecOk C) {lo wlo : Nat} {h : SH C} {H : Heap} (hS : SimH E lo wlo h H) {x : SV C.T} {a : AVal} (hx : Er E x a) (hn : noId x = true) : Er (away H) x a := noId_er hC (fun b cs hf => (hS.fr b cs hf).1) hx hn
theorem tl_rows (hC : CodecOk C) {E1 : Env} {n b off len cap : Nat} {ex : Bool} {l : List (C.T n)} {as : List AVal} (hf : E1.Fr b as) (hl : len = l.length) (ho : off + len * C.sz n ≤ as.length) (hc : len ≤ cap) (hr : RowsEr E1 (C.sz n) (l.map (C.enc n)) (chunk (C.sz n) len (as.drop off))) : Er E1 (.tl n l) (.sl (C.sz n) b off len cap ex) := by
 subst hl
 refine .tlS rfl rfl hf ho hc ?_
 intro i y j x a h1 h2 h3
 have hi := lt_of_some h1
 have hj : j < C.sz n := by have := lt_of_some h2; rw [hC.len] at this; exact this
 have := hr.2 i (C.enc n y) _ (by simp [h1]) (chunk_get hi)
 refine this.1.2 j x a h2 ?_
 rw [qx,if_pos hj,qw,qw,← Nat.add_assoc]
 exact h3
theorem viewL_ok {E1 : Env} {v : Option Nat → SV C.T → Option (SV C.T)} (hv : ∀ s x y a,v s x = some y → Er E x a → Er E1 y a) : ∀ {ss : List (Option Nat)} {xs ys : List (SV C.T)} {as : List AVal},viewL v ss xs = some ys → Ers E xs as → Ers E1 ys as
 | [],[],ys,as,h,hx => by
  simp only [viewL,qa] at h
  subst h
  rw [hx.inv_nil]
  exact Ers.nil
 | [],_ :: _,ys,as,h,hx => by cases h
 | _ :: _,[],ys,as,h,hx => by cases h
 | s :: ss,x :: xs,ys,as,h,hx => by
  obtain ⟨a,as',rfl,h1,h2⟩ := hx.inv_cons
  simp only [viewL] at h
  split at h
  ·rename_i y hy
   split at h
   ·rename_i ys' hys
    simp only [qa] at h
    subst h
    exact (viewL_ok hv hys h2).cons (hv _ _ _ _ hy h1)
   ·cases h
  ·cases h
theorem rowsV_ok (hC : CodecOk C) {E1 : Env} {v : Option Nat → SV C.T → Option (SV C.T)} (hv : ∀ s x y a,v s x = some y → Er E x a → Er E1 y a) {n z : Nat} : ∀ {rows : List (List (SV C.T))} {rA : List (List AVal)} {xs : List (C.T n)},RowsEr E z rows rA → rowsV v n rows = some xs → RowsEr E1 z (xs.map (C.enc n)) rA
 | [],rA,xs,h,hd => by
  simp only [rowsV,qa] at hd
  subst hd
  exact ⟨h.1,fun i r ra h => by simp at h⟩
 | r :: rows,[],xs,h,hd => by simp [RowsEr] at h
 | r :: rows,ra :: rA,xs,h,hd => by
  simp only [rowsV] at hd
  split at hd
  ·rename_i r' hr'
   split at hd
   ·rename_i y hy
    split at hd
    ·rename_i ys hys
     simp only [qa] at hd
     subst hd
     obtain ⟨h1,h2,h3⟩ := h.tail
     have ih := rowsV_ok hC hv h3 hys
     refine ⟨by simp [ih.1],fun i p q h4 h5 => ?_⟩
     cases i with
     | zero =>
      simp only [List.map_cons,List.getElem?_cons_zero,qa] at h4 h5
      subst h4 h5
      exact ⟨hC.dec n r' y hy E1 ra (viewL_ok hv hr' h1),h2⟩
     | succ i =>
      simp only [List.map_cons,List.getElem?_cons_succ] at h4 h5
      exact ih.2 i p q h4 h5
    ·cases hd
   ·cases hd
  ·cases hd
theorem viewC_ok (hC : CodecOk C) {lo wlo : Nat} {h : SH C} {H : Heap} (hS : SimH E lo wlo h H) : ∀ (f : Nat) (s : Option Nat) (x y : SV C.T) (a : AVal),viewC h f s x = some y → Er E x a → Er (away H) y a
 | 0,s,x,y,a,hv,hx => by cases hv
 | f + 1,none,x,y,a,hv,hx => by
  simp only [viewC] at hv
  cases hn : noId x with
  | false => rw [hn] at hv; cases hv
  | true =>
   rw [hn] at hv
   simp only [cond_true,qa] at hv
   subst hv
   exact to_away hC hS hx hn
 | f + 1,some n,x,y,a,hv,hx => by
  have ih := viewC_ok hC hS f
  simp only [viewC] at hv
  split at hv
  ·simp only [qa] at hv
   subst hv
   exact to_away hC hS hx rfl
  ·simp only [qa] at hv
   subst hv
   cases hx
   exact .tlN
  ·rename_i id
   split at hv
   ·rename_i m l full root ho
    simp only [qa] at hv
    subst hv
    cases hx with
    | R hg hs =>
     rcases hS.obj id _ (hget_some ho) with ⟨rfl,_,a',g1,g2⟩ | ⟨b,off,cap,ex,as,g1,g2,gw,g3,g4,g5,g6,g7,g8⟩
     ·rw [hg] at g1
      simp only [qa] at g1
      subst g1
      rcases g2 with rfl | rfl
      ·exact .tlN
      ·exact .tlL rfl rfl (fun i r h => by simp at h) (fun i y r j x a h => by simp at h)
     ·rw [hg] at g1
      simp only [qa] at g1
      subst g1
      have hm := Nat.mul_le_mul_right (C.sz m) g4
      refine .tlS rfl rfl g3 (by omega) g4 ?_
      intro i y j x a h1 h2 h3
      exact to_away hC hS (g8 i y j x a h1 h2 h3) (List.all_eq_true.1 (hC.ids m y) x (qp h2))
   ·cases hv
  ·rename_i sz id off len cap ex
   split at hv
   ·rename_i cs ho
    split at hv
    ·rename_i hc
     split at hv
     ·rename_i xs h1
      simp only [qa] at hv
      subst hv
      cases hx with
      | sl hb =>
       obtain ⟨b,as,g1,_,g2,g3⟩ := hS.obj id _ (hget_some ho)
       rw [hb] at g1
       simp only [qa] at g1
       subst g1
       have hl := g3.1
       obtain ⟨rfl,hle,hlc⟩ := hc
       have hr := rowsV_ok hC ih (chunkS_ok (n := len) (z := C.sz n) (g3.drop off) (by simp; omega)) h1
       have hxl : len = xs.length := by
        have := hr.1
        rw [chunk_len] at this
        simpa using this.symm
       exact tl_rows hC (E1 := away H) g2 hxl (by omega) hlc hr
     ·cases hv
    ·cases hv
   ·cases hv
  ·rename_i sz rows ex
   cases hx
   split at hv
   ·rename_i hc
    split at hv
    ·rename_i xs h1
     simp only [qa] at hv
     subst hv
     have hr0 : RowsEr E (C.sz n) (rows.map (List.map (SV.a (T := C.T)))) rows := by
      refine ⟨by simp,fun i r ra h1 h2 => ?_⟩
      rw [List.getElem?_map,h2] at h1
      simp only [Option.map_some,qa] at h1
      subst h1
      refine ⟨Ers.mapA ra, ?_⟩
      have := List.all_eq_true.1 hc.2 ra (qp h2)
      simp at this
      rw [this,hc.1]
     have hr := rowsV_ok hC ih hr0 h1
     refine .tlL hc.1 (by rw [← hr.1]; simp) (fun i r hi => hr.lens i r hi) ?_
     intro i y r j x a q1 q2 q3 q4
     exact (hr.2 i (C.enc n y) r (by simp [q1]) q2).1.2 j x a q3 q4
    ·cases hv
   ·cases hv
  ·cases hv
theorem takeTl_ok (hC : CodecOk C) {lo wlo : Nat} {h : SH C} {H : Heap} (hS : SimH E lo wlo h H) {n : Nat} {x : SV C.T} {a : AVal} {K : List (C.T n) → Tree} (hx : Er E x a) (hh : (takeTl h n x K).holds) : ∃ l,(K l).holds ∧ Er (away H) (.tl n l) a := by
 unfold takeTl at hh
 split at hh
 ·rename_i m l hv
  split at hh
  ·rename_i e
   subst e
   exact ⟨l,hh,viewC_ok hC hS _ _ _ _ _ hv hx⟩
  ·exact qa1 hh
 ·exact qa1 hh
theorem takeRow_ok (hC : CodecOk C) {lo wlo : Nat} {h : SH C} {H : Heap} (hS : SimH E lo wlo h H) {n : Nat} {cs : List (SV C.T)} {as : List AVal} {K : C.T n → Tree} (hx : Ers E cs as) (hh : (takeRow h n cs K).holds) : ∃ y,(K y).holds ∧ Ers (away H) (C.enc n y) as := by
 unfold takeRow at hh
 split at hh
 ·rename_i cs' hv
  obtain ⟨y,h1,h2⟩ := opt_some hh
  exact ⟨y,h2,hC.dec n cs' y h1 _ _ (viewL_ok (viewC_ok hC hS 4) hv hx)⟩
 ·exact qa1 hh
theorem takeFrow_ok (hC : CodecOk C) {lo wlo : Nat} {h : SH C} {H : Heap} (hS : SimH E lo wlo h H) {n : Nat} {x : SV C.T} {a : AVal} {K : C.T n → Tree} (hx : Er E x a) (hh : (takeFrow h n x K).holds) : ∃ y,(K y).holds ∧ Er (away H) (.fp (C.enc n y)) a := by
 unfold takeFrow at hh
 split at hh
 ·split at hh
  ·rename_i cs hle
   have key : ∀ {as rest all : List AVal},all = as ++ rest → Ers E cs as → ∃ y,(K y).holds ∧ Ers (away H) (C.enc n y) (as.take (C.sz n)) ∧ all = as.take (C.sz n) ++ (as.drop (C.sz n) ++ rest) := by
    intro as rest all e hE
    obtain ⟨y,h1,h2⟩ := takeRow_ok hC hS (hE.take _) hh
    exact ⟨y,h1,h2,by rw [e,← List.append_assoc,List.take_append_drop]⟩
   cases hx with
   | fpI e hl hr =>
    obtain ⟨y,k0,k1,k2⟩ := key e ⟨hl,hr⟩
    exact ⟨y,k0,.fpI k2 k1.1 k1.2⟩
   | fpP hf e hl hr =>
    obtain ⟨y,k0,k1,k2⟩ := key e ⟨hl,hr⟩
    exact ⟨y,k0,.fpP (E := away H) (hS.fr _ _ hf).1 k2 k1.1 k1.2⟩
  ·exact qa1 hh
 ·split at hh
  ·rename_i as hle
   cases hx
   obtain ⟨y,h1,h2⟩ := takeRow_ok hC hS (Ers.mapA _) hh
   exact ⟨y,h1,.fpI (List.take_append_drop _ _).symm h2.1 h2.2⟩
  ·exact qa1 hh
 ·rename_i id off
  split at hh
  ·rename_i cs ho
   split at hh
   ·cases hx with
    | ptr hb =>
     obtain ⟨b,as,g1,_,g2,g3⟩ := hS.obj id _ (hget_some ho)
     rw [hb] at g1
     simp only [qa] at g1
     subst g1
     obtain ⟨y,h1,h2⟩ := takeRow_ok hC hS ((g3.drop off).take (C.sz n)) hh
     exact ⟨y,h1,.fpP (E := away H) g2 (List.take_append_drop _ _).symm h2.1 h2.2⟩
   ·exact qa1 hh
  ·exact qa1 hh
 ·exact qa1 hh
theorem takeSkip_ok (hC : CodecOk C) {lo wlo : Nat} {h : SH C} {H : Heap} (hS : SimH E lo wlo h H) {k n : Nat} {x : SV C.T} {a : AVal} {K : C.T n → Tree} (hx : Er E x a) (hh : (takeSkip h k n x K).holds) : ∃ y,(K y).holds ∧ Er (away H) (.fp (List.replicate k .any ++ C.enc n y)) a := by
 unfold takeSkip at hh
 split at hh
 ·rename_i id off
  split at hh
  ·rename_i cs ho
   split at hh
   ·rename_i hle
    cases hx with
    | ptr hb =>
     obtain ⟨b,as,g1,_,g2,g3⟩ := hS.obj id _ (hget_some ho)
     rw [hb] at g1
     simp only [qa] at g1
     subst g1
     have hl := g3.1
     obtain ⟨y,h1,h2⟩ := takeRow_ok hC hS ((g3.drop (off + k)).take (C.sz n)) hh
     have hany : Ers (C := C) (away H) (List.replicate k .any) ((as.drop off).take k) := by
      refine ⟨by simp; omega,fun i x a q1 q2 => ?_⟩
      rw [List.getElem?_replicate] at q1
      split at q1
      ·cases q1; exact .any
      ·cases q1
     have hall := hany.append h2
     refine ⟨y,h1,.fpP (E := away H) (rest := as.drop (off + k + C.sz n)) g2 ?_ hall.1 hall.2⟩
     rw [List.append_assoc,← List.drop_drop (i := C.sz n) (j := off + k),List.take_append_drop,← List.drop_drop,List.take_append_drop]
   ·exact qa1 hh
  ·exact qa1 hh
 ·exact qa1 hh
theorem Pat.take_ok (hC : CodecOk C) {lo wlo : Nat} {h : SH C} {H : Heap} (hS : SimH E lo wlo h H) {p : Pat C} {x : SV C.T} {a : AVal} {K : p.ty → Tree} (hx : Er E x a) (hh : (p.take h x K).holds) : ∃ y,(K y).holds ∧ Er (away H) (p.sv y) a := by
 cases p with
 | int k =>
  simp only [Pat.take] at hh
  split at hh
  ·rename_i k' n hi
   split at hh
   ·rename_i hk
    subst hk
    rw [intOf_ok hx hi]
    exact ⟨n,hh,.i _ _⟩
   ·exact qa1 hh
  ·exact qa1 hh
 | bool =>
  simp only [Pat.take] at hh
  split at hh
  ·rename_i b hi
   rw [boolOf_ok hx hi]
   exact ⟨b,hh,.b _⟩
  ·exact qa1 hh
 | str =>
  simp only [Pat.take] at hh
  split at hh
  ·rename_i s hi
   rw [strOf_ok hx hi]
   exact ⟨s,hh,.s _⟩
  ·exact qa1 hh
 | tl n => exact takeTl_ok hC hS hx hh
 | row n =>
  simp only [Pat.take] at hh
  split at hh
  ·cases hx with
   | agg hl hr =>
    obtain ⟨y,h1,h2⟩ := takeRow_ok hC hS ⟨hl,hr⟩ hh
    exact ⟨y,h1,.agg h2.1 h2.2⟩
  ·cases hx
   obtain ⟨y,h1,h2⟩ := takeRow_ok hC hS (Ers.mapA _) hh
   exact ⟨y,h1,.agg h2.1 h2.2⟩
  ·exact qa1 hh
 | frow n => exact takeFrow_ok hC hS hx hh
 | fskip k n => exact takeSkip_ok hC hS hx hh
 | exact =>
  simp only [Pat.take] at hh
  split at hh
  ·rename_i v hl
   rw [litV_ok hx hl]
   exact ⟨_,hh,.a _⟩
  ·exact qa1 hh
 | lit X f =>
  simp only [Pat.take] at hh
  split at hh
  ·rename_i v hl
   obtain ⟨y,rfl,h1⟩ := hh
   rw [litV_ok hx hl]
   exact ⟨y,h1,.a _⟩
  ·exact qa1 hh
theorem takeAll_ok (hC : CodecOk C) {lo wlo : Nat} {h : SH C} {H : Heap} (hS : SimH E lo wlo h H) : ∀ {ps : List (Pat C)} {xs : List (SV C.T)} {as : List AVal} {K : tys ps → Tree},Ers E xs as → (takeAll h ps xs K).holds → ∃ y,(K y).holds ∧ Ers (away H) (argsS ps y) as
 | [],[],as,K,hx,hh => ⟨(),hh,by rw [hx.inv_nil]; exact Ers.nil⟩
 | [],_ :: _,as,K,hx,hh => (stuck_no hh).elim
 | _ :: _,[],as,K,hx,hh => (stuck_no hh).elim
 | p :: ps,x :: xs,as,K,hx,hh => by
  obtain ⟨a,as',rfl,h1,h2⟩ := hx.inv_cons
  obtain ⟨y,h3,h4⟩ := Pat.take_ok hC hS h1 hh
  obtain ⟨ys,h5,h6⟩ := takeAll_ok hC hS h2 h3
  exact ⟨(y,ys),h5,h6.cons h4⟩
theorem shiftL_eq {T : Nat → Type} (d : Nat) : ∀ (cs : List (SV T)),shiftL d cs = cs.map (shiftS d)
 | [] => rfl
 | x :: xs => by simp only [shiftL,List.map_cons,shiftL_eq d xs]
theorem pureL_eq {T : Nat → Type} : ∀ (cs : List (SV T)),pureL cs = cs.all pureS
 | [] => rfl
 | x :: xs => by simp only [pureL,List.all_cons,pureL_eq xs]
theorem shift_er {E E' : Env} {d : Nat} (hβ : ∀ id b,E.β id = some b → E'.β (id + d) = some b) (hγ : ∀ id a,E.γ id = some a → E'.γ (id + d) = some a) {x : SV C.T} {a : AVal} (h : Er E x a) : pureS x = true → Er E' (shiftS d x) a := by
 have list : ∀ {cs : List (SV C.T)} {as : List AVal},pureL cs = true → cs.length = as.length → (∀ (i : Nat) (x : SV C.T) (a : AVal),cs[i]? = some x → as[i]? = some a → pureS x = true → Er E' (shiftS d x) a) →
  (shiftL d cs).length = as.length ∧ ∀ (i : Nat) (x : SV C.T) (a : AVal),(shiftL d cs)[i]? = some x → as[i]? = some a → Er E' x a := by
  intro cs as hp hl ih
  rw [shiftL_eq]
  rw [pureL_eq] at hp
  refine ⟨by simp [hl],fun i x a h1 h2 => ?_⟩
  rw [List.getElem?_map,qd] at h1
  obtain ⟨y,h3,rfl⟩ := h1
  exact ih i y a h3 h2 (List.all_eq_true.1 hp y (qp h3))
 induction h with
 | a v => exact fun _ => .a v
 | i k n => exact fun _ => .i k n
 | b x => exact fun _ => .b x
 | s x => exact fun _ => .s x
 | agg hl _ ih =>
  intro hp
  simp only [pureS] at hp
  obtain ⟨h1,h2⟩ := list hp hl ih
  simp only [shiftS]
  exact .agg h1 h2
 | tup hl _ ih =>
  intro hp
  simp only [pureS] at hp
  obtain ⟨h1,h2⟩ := list hp hl ih
  simp only [shiftS]
  exact .tup h1 h2
 | iface _ ih =>
  intro hp
  simp only [pureS] at hp
  simp only [shiftS]
  exact .iface (ih hp)
 | ptr h => intro _; simp only [shiftS]; exact .ptr (hβ _ _ h)
 | sl h => intro _; simp only [shiftS]; exact .sl (hβ _ _ h)
 | R h hs => intro _; simp only [shiftS]; exact .R (hγ _ _ h) hs
 | _ => intro hp; simp [pureS] at hp
theorem scal_er {E E' : Env} {x : SV C.T} {a : AVal} (h : Er E x a) (hs : scal x = true) : Er E' x a := by
 cases h <;> simp [scal] at hs <;> constructor
theorem shift_sim (hC : CodecOk C) {E E' : Env} {lo wlo : Nat} {h : SH C} {H H' : Heap} {objs : List (Obj C.T)} (hS : SimH E lo wlo h H) (hS' : SimH E' (max lo H.length) 0 (objs.map some) H') (hp : objs.all pureO = true) (hH : H.length ≤ H'.length) (hsame : ∀ b,b < H.length → H'[b]? = H[b]?) :
 ∃ E2,LeN h.length H.length E E2 ∧ SimH E2 lo wlo (h ++ objs.map fun o => some (shiftO h.length o)) H' ∧ ∀ {x : SV C.T} {a : AVal},pureS x = true → Er E' x a → Er E2 (shiftS h.length x) a := by
 let E2 : Env := ⟨fun i => if i < h.length then E.β i else E'.β (i - h.length),fun i => if i < h.length then E.γ i else E'.γ (i - h.length),fun b => if b < H.length then E.ω b else (E'.ω b).map (· + h.length),E.Fr⟩
 have eβ : ∀ i,E2.β i = if i < h.length then E.β i else E'.β (i - h.length) := fun _ => rfl
 have eγ : ∀ i,E2.γ i = if i < h.length then E.γ i else E'.γ (i - h.length) := fun _ => rfl
 have eω : ∀ b,E2.ω b = if b < H.length then E.ω b else (E'.ω b).map (· + h.length) := fun _ => rfl
 have hle : LeN h.length H.length E E2 := by
  refine ⟨⟨fun i b hb => ?_,fun i b hb => ?_,fun b r hr => ?_,fun _ _ h => h⟩,fun i hi => ⟨by rw [eβ,if_pos hi],by rw [eγ,if_pos hi]⟩,fun _ _ h => h,fun b r hr => ?_⟩
  ·have hi : i < h.length := by
    rcases qm i h.length with k | k
    ·exact k
    ·rw [(hS.fresh i k).1] at hb; cases hb
   rw [eβ,if_pos hi]; exact hb
  ·have hi : i < h.length := by
    rcases qm i h.length with k | k
    ·exact k
    ·rw [(hS.fresh i k).2] at hb; cases hb
   rw [eγ,if_pos hi]; exact hb
  ·rw [eω,if_pos (hS.own b r hr).1]; exact hr
  ·rw [eω] at hr
   split at hr
   ·exact .inl hr
   ·exact .inr (by omega)
 have sβ : ∀ id b,E'.β id = some b → E2.β (id + h.length) = some b := fun id b hb => by rw [eβ,if_neg (by omega),Nat.add_sub_cancel]; exact hb
 have sγ : ∀ id a,E'.γ id = some a → E2.γ (id + h.length) = some a := fun id a hb => by rw [eγ,if_neg (by omega),Nat.add_sub_cancel]; exact hb
 have hshift : ∀ {x : SV C.T} {a : AVal},pureS x = true → Er E' x a → Er E2 (shiftS h.length x) a := fun hx he => shift_er sβ sγ he hx
 have hbig : ∀ id b,E'.β id = some b → H.length ≤ b := fun id b hb => by have := hS'.low id b (Nat.zero_le _) hb; omega
 have sω : ∀ b r,H.length ≤ b → E'.ω b = some r → E2.ω b = some (r + h.length) := fun b r hb hr => by rw [eω,if_neg (by omega),hr]; rfl
 have look : ∀ (i : Nat) (o : Obj C.T),(h ++ objs.map fun o => some (shiftO h.length o))[i]? = some (some o) → (i < h.length ∧ h[i]? = some (some o)) ∨ ∃ j o',i = j + h.length ∧ objs[j]? = some o' ∧ o = shiftO h.length o' := by
  intro i o hi
  rcases qm i h.length with k | k
  ·rw [qg k] at hi
   exact .inl ⟨k,hi⟩
  ·rw [qk k,List.getElem?_map,qd] at hi
   obtain ⟨o',h1,h2⟩ := hi
   cases h2
   exact .inr ⟨i - h.length,o',by omega,h1,rfl⟩
 have obj' : ∀ (j : Nat) (o' : Obj C.T),objs[j]? = some o' → (objs.map some)[j]? = some (some o') := fun j o' hj => by rw [List.getElem?_map,hj]; rfl
 refine ⟨E2,hle,⟨?_, ?_, ?_, ?_, ?_, ?_, ?_, ?_,by have := hS.wl; simp; omega,by have := hS.ll; omega⟩,hshift⟩
 ·intro i o hi
  rcases look i o hi with ⟨h1,h2⟩ | ⟨j,o',rfl,h2,rfl⟩
  ·exact ((hS.obj i o h2).heap fun b hb => hsame b (hS.bnd i b hb)).mono hle.le fun hn => by rw [(hle.old i h1).1]; exact hn
  ·have hpo := List.all_eq_true.1 hp o' (qp h2)
   have ho := hS'.obj j o' (obj' j o' h2)
   cases o' with
   | cells cs =>
    obtain ⟨b,as,k1,k2,k3,k4⟩ := ho
    refine ⟨b,as,sβ _ _ k1,sω b _ (hbig _ _ k1) k2,k3, ?_⟩
    have hpl : pureL cs = true := hpo
    rw [pureL_eq] at hpl
    rw [shiftL_eq]
    refine ⟨by simp [k4.1],fun i x a h1 h3 => ?_⟩
    rw [List.getElem?_map,qd] at h1
    obtain ⟨y,h4,rfl⟩ := h1
    exact hshift (List.all_eq_true.1 hpl y (qp h4)) (k4.2 i y a h4 h3)
   | mp es => simp [pureO] at hpo
   | it s pos => simp [pureO] at hpo
   | rows n l full root =>
    rcases ho with ⟨rfl,k1,a,k2,k3⟩ | ⟨b,off,cap,ex,as,k1,k2,k3,k4,k5,k6,k7,k8,k9⟩
    ·exact .inl ⟨rfl,by rw [eβ,if_neg (by omega),Nat.add_sub_cancel]; exact k1,a,sγ _ _ k2,k3⟩
    ·refine .inr ⟨b,off,cap,ex,as,sγ _ _ k1,sβ _ _ k2,sω b _ (hbig _ _ k2) k3,k4,k5,k6,k7,k8, ?_⟩
     intro i y jj x a q1 q2 q3
     exact scal_er (k9 i y jj x a q1 q2 q3) (List.all_eq_true.1 (hC.flat n y hpo) x (qp q2))
 ·intro i i' o o' b hi hi' hb hb'
  rcases look i o hi with ⟨h1,h2⟩ | ⟨j,p,rfl,h2,rfl⟩ <;> rcases look i' o' hi' with ⟨h3,h4⟩ | ⟨j',p',rfl,h4,rfl⟩
  ·rw [(hle.old i h1).1] at hb
   rw [(hle.old i' h3).1] at hb'
   exact hS.inj i i' o o' b h2 h4 hb hb'
  ·rw [(hle.old i h1).1] at hb
   rw [eβ,if_neg (by omega),Nat.add_sub_cancel] at hb'
   have := hS.bnd i b hb
   have := hbig _ _ hb'
   omega
  ·rw [(hle.old i' h3).1] at hb'
   rw [eβ,if_neg (by omega),Nat.add_sub_cancel] at hb
   have := hS.bnd i' b hb'
   have := hbig _ _ hb
   omega
  ·rw [eβ,if_neg (by omega),Nat.add_sub_cancel] at hb hb'
   rw [hS'.inj j j' p p' b (obj' j p h2) (obj' j' p' h4) hb hb']
 ·intro b cs hf
  have hf : E.Fr b cs := hf
  obtain ⟨h1,h2⟩ := hS.fr b cs hf
  have hlt := lt_of_some h1
  refine ⟨by rw [hsame b hlt]; exact h1,fun i o hi hb => ?_⟩
  rcases look i o hi with ⟨h3,h4⟩ | ⟨j,p,rfl,h4,rfl⟩
  ·rw [(hle.old i h3).1] at hb
   exact h2 i o h4 hb
  ·rw [eβ,if_neg (by omega),Nat.add_sub_cancel] at hb
   have := hbig _ _ hb
   omega
 ·intro i hi
  simp only [qo,List.length_map] at hi
  rw [eβ,eγ,if_neg (by omega),if_neg (by omega)]
  exact hS'.fresh (i - h.length) (by simp; omega)
 ·intro i b hw hb
  rw [eβ] at hb
  split at hb
  ·exact hS.low i b hw hb
  ·have := hS'.low _ b (Nat.zero_le _) hb; omega
 ·intro i b hb
  rw [eβ] at hb
  split at hb
  ·have := hS.bnd i b hb; omega
  ·exact hS'.bnd _ b hb
 ·intro b r hr
  rw [eω] at hr
  split at hr
  ·exact ⟨by have := (hS.own b r hr).1; omega,(hS.own b r hr).2⟩
  ·rename_i hlt
   rw [qd] at hr
   obtain ⟨r',h1,_⟩ := hr
   refine ⟨(hS'.own b r' h1).1,fun cs hf => ?_⟩
   have := lt_of_some (hS.fr b cs hf).1
   omega
 ·intro i b hb
  rw [eβ] at hb
  split at hb
  ·obtain ⟨r,hr⟩ := hS.βω i b hb
   exact ⟨r,by rw [eω,if_pos (hS.bnd i b hb)]; exact hr⟩
  ·obtain ⟨r,hr⟩ := hS'.βω _ b hb
   exact ⟨_,sω b r (hbig _ _ hb) hr⟩
theorem mkCtr_ok {F : Cf C} (hC : CodecOk C) (hX : ExtNo F.S F.noExt) (hL : HookLow F.S) {ctr : FuncId → Option (Ctr C)} (hctr : CtrOk F.S ctr) {f : FuncId} {fn : Func} {body : Code} (hf : F.S.P.funcs[f]? = some fn) (hb : fn.body = some body) (hk : F.S.hook f = none) (hp : F.S.pol f = .fresh)
 (D : CtrD C) (N : Nat) (cuts : tys D.pats → List (Nat × CutD C)) (hn : D.pats.length ≤ fn.ntmps) (hs : fn.ntmps ≤ 512) (hnd : nodupB ((allK body []).map (·.1)) = true)
 (hpure : ∀ x,D.pre x → pureS (D.res x) = true ∧ (D.objs x).all pureO = true)
 (hentry : ∀ x,D.pre x → (entryX F ctr N fn body ⟨cuts x,D.res x,D.objs x⟩ (argsS D.pats x)).holds)
 (hcuts : ∀ x,D.pre x → ∀ p,p ∈ cuts x → ∀ s,p.2.I s → (cutVC F ctr N fn body ⟨cuts x,D.res x,D.objs x⟩ p.1 p.2 s).holds) : CtrOk1 F.S f (mkCtr D) := by
 intro E lo wlo args h H K av hh hS hA
 obtain ⟨x,⟨hpre,hK⟩,hAx⟩ := takeAll_ok hC hS hA hh
 have hal : ∀ (ps : List (Pat C)) (y : tys ps),(argsS ps y).length = ps.length := by
  intro ps
  induction ps with
  | nil => intro y; rfl
  | cons p ps ih => intro y; simp only [argsS,qn,ih]
 have hS0 : SimH (away H) ((F.S.pol f).lo lo H) 0 ([] : SH C) H := away_sim (by rw [hp]; simp only [Pol.lo]; have := hS.ll; omega)
 obtain ⟨n,v,H',E',h1,h2,h4⟩ := fn_runs hC hX hL hctr hf hb hk (by rw [hp]; simp) ⟨cuts x,D.res x,D.objs x⟩ N (by rw [hal]; exact hn) hs hnd (hentry x hpre) (hcuts x hpre) hS0 hAx
 have hfr := callA_fresh (execA_low hL n) (by rw [hk]; rfl) hp h1
 rw [hp] at h2
 obtain ⟨E2,k1,k2,k3⟩ := shift_sim hC hS h2 (hpure x hpre).2 hfr.1 hfr.2
 exact ⟨v,H',_,_,E2,⟨n,h1⟩,k1,by simp,k2,hfr.1,k3 (hpure x hpre).1 h4,hK⟩
end Go.Sy

/- At the top: a law's run by its cuts; a law's arguments as typed rows. Generic: over any program. -/
namespace Go.Sy
open Go.Am
set_option linter.unusedVariables false
set_option linter.unusedSimpArgs false
variable {C : Codec}
structure Paid (t : Tree) : Prop where
 out : t.holds
theorem mkCtr_paid {F : Cf C} (hC : CodecOk C) (hX : ExtNo F.S F.noExt) (hL : HookLow F.S) {ctr : FuncId → Option (Ctr C)} (hctr : CtrOk F.S ctr) {f : FuncId} {fn : Func} {body : Code} (hf : F.S.P.funcs[f]? = some fn) (hb : fn.body = some body) (hk : F.S.hook f = none) (hp : F.S.pol f = .fresh)
 (D : CtrD C) (N : Nat) (cuts : tys D.pats → List (Nat × CutD C)) (hn : D.pats.length ≤ fn.ntmps) (hs : fn.ntmps ≤ 512) (hnd : nodupB ((allK body []).map (·.1)) = true)
 (hpure : ∀ x,D.pre x → pureS (D.res x) = true ∧ (D.objs x).all pureO = true)
 (hentry : ∀ x,D.pre x → Paid (entryX F ctr N fn body ⟨cuts x,D.res x,D.objs x⟩ (argsS D.pats x)))
 (hcuts : ∀ x,D.pre x → ∀ p,p ∈ cuts x → ∀ s,p.2.I s → Paid (cutVC F ctr N fn body ⟨cuts x,D.res x,D.objs x⟩ p.1 p.2 s)) : CtrOk1 F.S f (mkCtr D) :=
 mkCtr_ok hC hX hL hctr hf hb hk hp D N cuts hn hs hnd hpure (fun x h => (hentry x h).out) (fun x h p hm s hI => (hcuts x h p hm s hI).out)
def lookC : List (FuncId × Ctr C) → FuncId → Option (Ctr C)
 | [],_ => none
 | p :: l,f => bif Nat.beq p.1 f then some p.2 else lookC l f
theorem lookC_ok {S : AStat} : ∀ {l : List (FuncId × Ctr C)},(∀ p,p ∈ l → CtrOk1 S p.1 p.2) → CtrOk S (lookC l)
 | [],_,f,c,h => by cases h
 | p :: l,hl,f,c,h => by
  simp only [lookC] at h
  cases hb : Nat.beq p.1 f with
  | true =>
   rw [hb] at h
   simp only [cond_true,qa] at h
   rw [Nat.beq_eq] at hb
   subst hb h
   exact hl p (by simp)
  | false =>
   rw [hb] at h
   exact lookC_ok (fun q hq => hl q (List.mem_cons_of_mem _ hq)) f c h
def TyRow (C : Codec) (n : Nat) (ty : Ty) (R : C.T n → Prop) : Prop := ∀ cs,ty.Is cs → ∃ x,Ers (away []) (C.enc n x) cs ∧ R x
theorem slice_arg (hC : CodecOk C) {n : Nat} {e : Ty} {R : C.T n → Prop} (hr : TyRow C n e R) (hz : C.sz n = e.size) {a : AVal} (h : (Ty.slice e).Is [a]) : ∃ l : List (C.T n),Er (away []) (.tl n l) a ∧ l.length ≤ maxLen ∧ ∀ x,x ∈ l → R x := by
 simp only [Ty.Is,List.cons.injEq,and_true] at h
 rcases h with rfl | ⟨rows,ex,rfl,hl,hrows⟩
 ·exact ⟨[],.tlN,Nat.zero_le _,fun x h => by simp at h⟩
 ·have : ∃ l : List (C.T n),RowsEr (away []) (C.sz n) (l.map (C.enc n)) rows ∧ ∀ x,x ∈ l → R x := by
   clear hl
   induction rows with
   | nil => exact ⟨[],⟨rfl,fun i r ra h => by simp at h⟩,fun x h => by simp at h⟩
   | cons r rows ih =>
    obtain ⟨l,h1,h2⟩ := ih fun r hr => hrows r (List.mem_cons_of_mem _ hr)
    obtain ⟨x,h3,h4⟩ := hr r (hrows r (by simp))
    refine ⟨x :: l,⟨by simp [h1.1],fun i p ra g1 g2 => ?_⟩,fun y hy => ?_⟩
    ·cases i with
     | zero =>
      simp only [List.map_cons,List.getElem?_cons_zero,qa] at g1 g2
      subst g1 g2
      exact ⟨h3,by rw [← h3.1,hC.len]⟩
     | succ i =>
      simp only [List.map_cons,List.getElem?_cons_succ] at g1 g2
      exact h1.2 i p ra g1 g2
    ·rcases List.mem_cons.1 hy with rfl | hy
     ·exact h4
     ·exact h2 y hy
  obtain ⟨l,h1,h2⟩ := this
  have hll : rows.length = l.length := by rw [← h1.1]; simp
  refine ⟨l,.tlL hz.symm hll (fun i r hi => h1.lens i r hi) ?_,by omega,h2⟩
  intro i y r j x a q1 q2 q3 q4
  exact (h1.2 i (C.enc n y) r (by simp [q1]) q2).1.2 j x a q3 q4
theorem er_a {E : Env} {v a : AVal} (h : Er (C := C) E (.a v) a) : a = v := by cases h; rfl
theorem at_nat {n : Nat} {l : List (C.T n)} (i : Nat) : C.at n l (i : Int) = l.getD i (C.dflt n) := rfl
theorem at_get {n : Nat} {l : List (C.T n)} {i : Nat} (h : i < l.length) : C.at n l (i : Int) = l[i] := by
 rw [at_nat,qi,qt h]
 rfl
theorem succ64 {i : Nat} (h : i < 1000000000) : IntKind.wrap .i64 ((i : Int) + 1) = ((i + 1 : Nat) : Int) := by
 simp only [IntKind.wrap,IntKind.signed,IntKind.bits]
 simp
 omega
theorem all_take {α : Type} {l : List α} {i : Nat} {p : α → Prop} (h : ∀ x ∈ l.take i,p x) (hi : i < l.length) (hx : p l[i]) : ∀ x ∈ l.take (i + 1),p x := by
 intro x hm
 rw [List.take_succ_eq_append_getElem hi,List.mem_append] at hm
 rcases hm with hm | hm
 ·exact h x hm
 ·rw [List.mem_singleton] at hm
  rw [hm]
  exact hx
theorem wrap64 {n : Int} (h0 : -9223372036854775808 ≤ n) (h1 : n ≤ 9223372036854775807) : IntKind.wrap .i64 n = n := by
 simp only [IntKind.wrap,IntKind.signed,IntKind.bits]
 simp
 omega
end Go.Sy

/- Contracts of functions whose result, a list of plain rows, is sealed when they end. Generic: over any program. -/
namespace Go.Sy
open Go.Am
set_option linter.unusedVariables false
variable {C : Codec} {E : Env}
def plainS {T : Nat → Type} : SV T → Bool
 | .i _ _ => true
 | .b _ => true
 | .s _ => true
 | _ => false
theorem frz_plain {x : SV C.T} {a : AVal} {n0 : Nat} {H : Heap} {k : Nat} (hx : Er E x a) (hp : plainS x = true) : frz n0 H false (k + 1) a = some a := by
 cases hx <;> first | (unfold frz; rfl) | simp [plainS] at hp
theorem frzs_id {f : AVal → Option AVal} : ∀ {as : List AVal},(∀ a,a ∈ as → f a = some a) → frzs f as = some as
 | [],_ => rfl
 | a :: as,h => by
  simp only [frzs,h a List.mem_cons_self,frzs_id (as := as) fun b hb => h b (List.mem_cons_of_mem _ hb)]
theorem frzss_id {f : AVal → Option AVal} : ∀ {rs : List (List AVal)},(∀ r,r ∈ rs → ∀ a,a ∈ r → f a = some a) → frzss f rs = some rs
 | [],_ => rfl
 | r :: rs,h => by
  simp only [frzss,frzs_id (h r List.mem_cons_self),frzss_id (rs := rs) fun b hb => h b (List.mem_cons_of_mem _ hb)]
theorem frz_rowsN (m : Nat) (hC : CodecOk C) {E' : Env} {n0 : Nat} {H' : Heap} {n root : Nat} {full : Bool} {l : List (C.T n)} {v : AVal} (hpl : ∀ y : C.T n,(C.enc n y).all plainS = true) (hS : SimH E' n0 0 [some (.rows n l full root)] H') (h : Er (C := C) E' (.R 0) v) :
 ∃ a,frz n0 H' true (m + 2) v = some a ∧ ∀ E'' : Env,Er (C := C) E'' (.tl n l) a := by
 cases h with
 | R hg hs =>
  rcases hS.obj 0 _ rfl with ⟨rfl,_,a',g1,g2⟩ | ⟨b,off,cap,ex,as,g1,g2,gw,g3,g4,g5,g6,g7,g8⟩
  ·rw [hg] at g1
   simp only [qa] at g1
   subst g1
   rcases g2 with rfl | rfl
   ·exact ⟨.nils,by unfold frz; rfl,fun _ => .tlN⟩
   ·exact ⟨.list _ [] true,by unfold frz; rfl,fun _ => .tlL rfl rfl (fun i r h => by simp at h) (fun i y r j x a h => by simp at h)⟩
  ·rw [hg] at g1
   simp only [qa] at g1
   subst g1
   have hlo := hS.low 0 b (Nat.zero_le _) g2
   have hm := Nat.mul_le_mul_right (C.sz n) g4
   have cell : ∀ (i : Nat) (y : C.T n) (j : Nat) (a : AVal),l[i]? = some y → j < C.sz n → as[off + i * C.sz n + j]? = some a → ∃ x,(C.enc n y)[j]? = some x ∧ Er E' x a ∧ plainS x = true := by
    intro i y j a h1 h2 h3
    have hj : j < (C.enc n y).length := by rw [hC.len]; exact h2
    exact ⟨_,qt hj,g8 i y j _ a h1 (qt hj) h3,List.all_eq_true.1 (hpl y) _ (List.getElem_mem hj)⟩
   have inRow : ∀ (i : Nat) (r : List AVal),(chunk (C.sz n) l.length (as.drop off))[i]? = some r → i < l.length ∧ r.length = C.sz n ∧ ∀ j,j < C.sz n → r[j]? = as[off + i * C.sz n + j]? := by
    intro i r hr
    have hi : i < l.length := by
     have := lt_of_some hr
     rwa [chunk_len] at this
    rw [chunk_get hi] at hr
    simp only [qa] at hr
    subst hr
    have hi2 := Nat.mul_le_mul_right (C.sz n) (show i + 1 ≤ l.length from hi)
    rw [Nat.add_mul,Nat.one_mul] at hi2
    refine ⟨hi,by simp; omega,fun j hj => ?_⟩
    rw [qx,if_pos hj,qw,qw,← Nat.add_assoc]
   refine ⟨.list (C.sz n) (chunk (C.sz n) l.length (as.drop off)) (ex && cap == l.length), ?_,fun E'' => ?_⟩
   ·have e : frzss (frz n0 H' false (m + 1)) (chunk (C.sz n) l.length (as.drop off)) = some (chunk (C.sz n) l.length (as.drop off)) := by
     refine frzss_id fun r hr a ha => ?_
     obtain ⟨i,hi,hri⟩ := List.mem_iff_getElem.1 hr
     obtain ⟨h1,h2,h3⟩ := inRow i r (by rw [← hri]; exact qt hi)
     obtain ⟨j,hj,haj⟩ := List.mem_iff_getElem.1 ha
     have h4 := h3 j (by omega)
     rw [qt hj,haj] at h4
     obtain ⟨x,k1,k2,k3⟩ := cell i l[i] j a (qt h1) (by omega) h4.symm
     exact frz_plain k2 k3
    unfold frz
    simp only
    rw [if_neg (by omega),g3]
    simp only
    rw [if_pos (by omega),e]
    rfl
   ·refine .tlL rfl (by rw [chunk_len]) (fun i r hr => (inRow i r hr).2.1) ?_
    intro i y r j x a q1 q2 q3 q4
    obtain ⟨h1,h2,h3⟩ := inRow i r q2
    have hj : j < C.sz n := by have := lt_of_some q3; rwa [hC.len] at this
    rw [h3 j hj] at q4
    obtain ⟨x',k1,k2,k3⟩ := cell i y j a q1 hj q4
    rw [q3] at k1
    simp only [qa] at k1
    subst k1
    cases k2 <;> first | exact .i _ _ | exact .b _ | exact .s _ | simp [plainS] at k3
theorem frz_rows (hC : CodecOk C) {E' : Env} {n0 : Nat} {H' : Heap} {n root : Nat} {full : Bool} {l : List (C.T n)} {v : AVal} (hpl : ∀ y : C.T n,(C.enc n y).all plainS = true) (hS : SimH E' n0 0 [some (.rows n l full root)] H') (h : Er (C := C) E' (.R 0) v) :
 ∃ a,frz n0 H' true 64 v = some a ∧ ∀ E'' : Env,Er (C := C) E'' (.tl n l) a := frz_rowsN 62 hC hpl hS h
def mkCtrL (ps : List (Pat C)) (pre : tys ps → Prop) (n : Nat) (l : tys ps → List (C.T n)) : Ctr C := fun wlo args h K => takeAll h ps args fun x => .need (pre x) (K (.tl n (l x)) h)
theorem mkCtrL_paid {F : Cf C} (hC : CodecOk C) (hX : ExtNo F.S F.noExt) (hL : HookLow F.S) {ctr : FuncId → Option (Ctr C)} (hctr : CtrOk F.S ctr) {f : FuncId} {fn : Func} {body : Code} (hf : F.S.P.funcs[f]? = some fn) (hb : fn.body = some body) (hk : F.S.hook f = none) (hp : F.S.pol f = .pure)
 (ps : List (Pat C)) (pre : tys ps → Prop) (n : Nat) (l : tys ps → List (C.T n)) (full : Bool) (root : Nat) (hpl : ∀ y : C.T n,(C.enc n y).all plainS = true) (N : Nat) (cuts : tys ps → List (Nat × CutD C)) (hn : ps.length ≤ fn.ntmps) (hs : fn.ntmps ≤ 512) (hnd : nodupB ((allK body []).map (·.1)) = true)
 (hentry : ∀ x,pre x → Paid (entryX F ctr N fn body ⟨cuts x,.R 0,[.rows n (l x) full root]⟩ (argsS ps x)))
 (hcuts : ∀ x,pre x → ∀ p,p ∈ cuts x → ∀ s,p.2.I s → Paid (cutVC F ctr N fn body ⟨cuts x,.R 0,[.rows n (l x) full root]⟩ p.1 p.2 s)) : CtrOk1 F.S f (mkCtrL ps pre n l) := by
 intro E lo wlo args h H K av hh hS hA
 obtain ⟨x,⟨hpre,hK⟩,hAx⟩ := takeAll_ok hC hS hA hh
 have hal : ∀ (ps : List (Pat C)) (y : tys ps),(argsS ps y).length = ps.length := by
  intro ps
  induction ps with
  | nil => intro y; rfl
  | cons p ps ih => intro y; simp only [argsS,qn,ih]
 have hS0 : SimH (away H) ((F.S.pol f).lo lo H) 0 ([] : SH C) H := away_sim (by rw [hp]; simp only [Pol.lo]; exact qf _)
 obtain ⟨m,v,H',E',h1,h2,h4⟩ := fn_runsP hC hX hL hctr hf hb hk ⟨cuts x,.R 0,[.rows n (l x) full root]⟩ N (by rw [hal]; exact hn) hs hnd (hentry x hpre).out (fun p hm s hI => (hcuts x hpre p hm s hI).out) hS0 hAx
 rw [hp] at h1 h2
 obtain ⟨a,k1,k2⟩ := frz_rows hC hpl h2 h4
 have k1 : frz H.length H' true 64 v = some a := k1
 exact ⟨a,H,_,_,E,⟨m,by rw [h1]; simp only [finish,k1,Option.map_some]⟩,LeN.refl _ _,qf _,hS,qf _,k2 E,hK⟩
def mkCtrU (ps : List (Pat C)) (pre : tys ps → Prop) (n : Nat) (l : tys ps → List (C.T n)) (k : IntKind) (w : tys ps → Int) : Ctr C := fun wlo args h K => takeAll h ps args fun x => .need (pre x) (K (.tup [.tl n (l x),.i k (w x)]) h)
theorem mkCtrU_paid {F : Cf C} (hC : CodecOk C) (hX : ExtNo F.S F.noExt) (hL : HookLow F.S) {ctr : FuncId → Option (Ctr C)} (hctr : CtrOk F.S ctr) {f : FuncId} {fn : Func} {body : Code} (hf : F.S.P.funcs[f]? = some fn) (hb : fn.body = some body) (hk : F.S.hook f = none) (hp : F.S.pol f = .pure)
 (ps : List (Pat C)) (pre : tys ps → Prop) (n : Nat) (l : tys ps → List (C.T n)) (k : IntKind) (w : tys ps → Int) (full : Bool) (root : Nat) (hpl : ∀ y : C.T n,(C.enc n y).all plainS = true) (N : Nat) (cuts : tys ps → List (Nat × CutD C)) (hn : ps.length ≤ fn.ntmps) (hs : fn.ntmps ≤ 512) (hnd : nodupB ((allK body []).map (·.1)) = true)
 (hentry : ∀ x,pre x → Paid (entryX F ctr N fn body ⟨cuts x,.tup [.R 0,.i k (w x)],[.rows n (l x) full root]⟩ (argsS ps x)))
 (hcuts : ∀ x,pre x → ∀ p,p ∈ cuts x → ∀ s,p.2.I s → Paid (cutVC F ctr N fn body ⟨cuts x,.tup [.R 0,.i k (w x)],[.rows n (l x) full root]⟩ p.1 p.2 s)) : CtrOk1 F.S f (mkCtrU ps pre n l k w) := by
 intro E lo wlo args h H K av hh hS hA
 obtain ⟨x,⟨hpre,hK⟩,hAx⟩ := takeAll_ok hC hS hA hh
 have hal : ∀ (ps : List (Pat C)) (y : tys ps),(argsS ps y).length = ps.length := by
  intro ps
  induction ps with
  | nil => intro y; rfl
  | cons p ps ih => intro y; simp only [argsS,qn,ih]
 have hS0 : SimH (away H) ((F.S.pol f).lo lo H) 0 ([] : SH C) H := away_sim (by rw [hp]; simp only [Pol.lo]; exact qf _)
 obtain ⟨m,v,H',E',h1,h2,h4⟩ := fn_runsP hC hX hL hctr hf hb hk ⟨cuts x,.tup [.R 0,.i k (w x)],[.rows n (l x) full root]⟩ N (by rw [hal]; exact hn) hs hnd (hentry x hpre).out (fun p hm s hI => (hcuts x hpre p hm s hI).out) hS0 hAx
 rw [hp] at h1 h2
 cases h4 with
 | tup hl he =>
  rename_i ls
  obtain ⟨a0,l1,rfl⟩ : ∃ a l1,ls = a :: l1 := by cases ls with | nil => cases hl | cons a l1 => exact ⟨_,_,rfl⟩
  obtain ⟨a1,l2,rfl⟩ : ∃ a l2,l1 = a :: l2 := by cases l1 with | nil => cases hl | cons a l2 => exact ⟨_,_,rfl⟩
  obtain rfl : l2 = [] := by cases l2 with | nil => rfl | cons => cases hl
  have e0 := he 0 _ _ rfl rfl
  have e1 := he 1 _ _ rfl rfl
  obtain rfl : a1 = .int k (w x) := by cases e1; rfl
  obtain ⟨a,k1,k2⟩ := frz_rowsN 61 hC hpl h2 e0
  have k1 : frz H.length H' true 63 a0 = some a := k1
  have k4 : frz H.length H' true 63 (.int k (w x)) = some (.int k (w x)) := by unfold frz; rfl
  have k3 : frz H.length H' true 64 (.tup [a0,.int k (w x)]) = some (.tup [a,.int k (w x)]) := by
   unfold frz
   simp only [frzs,k1,k4,Option.map_some]
  refine ⟨.tup [a,.int k (w x)],H,_,_,E,⟨m,by rw [h1]; simp only [finish,k3,Option.map_some]⟩,LeN.refl _ _,qf _,hS,qf _, ?_,hK⟩
  refine .tup rfl ?_
  intro i u b hi hj
  rcases i with _ | _ | i
  ·cases hi; cases hj; exact k2 E
  ·cases hi; cases hj; exact .i _ _
  ·simp at hi
end Go.Sy

/- A list that is nil may be told as an object of its own: an empty list. -/
namespace Go.Sy
open Go.RowKit Go.Am
variable {C : Codec} {E : Env}
def nilAt (j k m root : Nat) (h : SH C) : SH C := match h[j]? with
 | some (some (.cells cs)) => match cs[k]? with
  | some (.a .nils) => (h ++ [some (Go.Sy.Obj.rows m [] true root)]).set j (some (.cells (cs.set k (.R h.length))))
  | _ => h
 | _ => h
theorem SimH.recell {lo wlo : Nat} {h : SH C} {H : Heap} (hS : SimH E lo wlo h H) {j : Nat} {cs cs' : List (SV C.T)} (hj : h[j]? = some (some (.cells cs))) (hc : ∀ as,Ers E cs as → Ers E cs' as) : SimH E lo wlo (h.set j (some (.cells cs'))) H := by
 have look : ∀ {id : Nat} {o : Obj C.T},(h.set j (some (.cells cs')))[id]? = some (some o) → ∃ o',h[id]? = some (some o') := by
  intro id o ho
  rw [qh] at ho
  split at ho
  ·rename_i e; subst e; exact ⟨_,hj⟩
  ·exact ⟨_,ho⟩
 refine ⟨fun id o ho => ?_,fun id id' o o' b h1 h2 => ?_,fun b cs h1 => ⟨(hS.fr b cs h1).1,fun id o ho => ?_⟩,fun id hid => hS.fresh id (by rwa [qz] at hid),hS.low,hS.bnd,hS.own,hS.βω,by rw [qz]; exact hS.wl,hS.ll⟩
 ·rw [qh] at ho
  split at ho
  ·rename_i e
   subst e
   split at ho
   ·cases ho
    obtain ⟨b,as,q1,q2,q3,q4⟩ := hS.obj _ _ hj
    exact ⟨b,as,q1,q2,q3,hc as q4⟩
   ·cases ho
  ·exact hS.obj id o ho
 ·obtain ⟨_,k1⟩ := look h1
  obtain ⟨_,k2⟩ := look h2
  exact hS.inj id id' _ _ b k1 k2
 ·obtain ⟨_,k1⟩ := look ho
  exact (hS.fr b cs h1).2 id _ k1
theorem nilAt_ok {lo wlo : Nat} {h : SH C} {H : Heap} (hS : SimH E lo wlo h H) (j k m root : Nat) : ∃ E',LeN h.length H.length E E' ∧ SimH E' lo wlo (nilAt j k m root h) H := by
 have same : ∃ E',LeN h.length H.length E E' ∧ SimH E' lo wlo h H := ⟨E,⟨Env.le.refl E,fun _ _ => ⟨rfl,rfl⟩,fun _ _ x => x,fun _ _ x => .inl x⟩,hS⟩
 unfold nilAt
 split
 ·rename_i cs hj
  split
  ·rename_i hk
   have hp := hS.putN (N := H.length) h.length (Go.Sy.Obj.rows m [] true root) none .nils root (qf _) (fun b _ hne => absurd rfl hne) (fun b hb => by cases hb) (fun _ => .inl ⟨rfl,by simp [Env.put],.nils,by simp [Env.put],.inl rfl⟩)
   have hset : h.set h.length none = h := List.set_eq_of_length_le (qf _)
   rw [hset] at hp
   refine ⟨_,hp.1,hp.2.recell (j := j) (cs := cs) (cs' := cs.set k (.R h.length)) (by rw [qg (lt_of_some hj)]; exact hj) fun as hE => ⟨by rw [qz]; exact hE.1,fun i x a h1 h2 => ?_⟩⟩
   rw [qh] at h1
   split at h1
   ·rename_i e
    subst e
    split at h1
    ·cases h1
     have ha := hE.2 k _ a hk h2
     cases ha
     exact .R (by simp [Env.put]) rfl
    ·cases h1
   ·exact hE.2 i x a h1 h2
  ·exact same
 ·exact same
theorem nilAt_len (j k m root : Nat) (h : SH C) : h.length ≤ (nilAt j k m root h).length := by
 unfold nilAt
 split
 ·split
  ·rw [qz,qo]; omega
  ·exact qf _
 ·exact qf _
def NilTo (h h' : SH C) : Prop := h.length ≤ h'.length ∧ ∀ (E : Env) (lo wlo : Nat) (H : Heap),SimH E lo wlo h H → ∃ E',LeN h.length H.length E E' ∧ SimH E' lo wlo h' H
theorem NilTo.refl (h : SH C) : NilTo h h := ⟨qf _,fun E lo wlo H hS => ⟨E,⟨Env.le.refl E,fun _ _ => ⟨rfl,rfl⟩,fun _ _ x => x,fun _ _ x => .inl x⟩,hS⟩⟩
theorem NilTo.trans {a b c : SH C} (h : NilTo a b) (k : NilTo b c) : NilTo a c := ⟨Nat.le_trans h.1 k.1,fun E lo wlo H hS => by
 obtain ⟨E1,h1,h2⟩ := h.2 E lo wlo H hS
 obtain ⟨E2,h3,h4⟩ := k.2 E1 lo wlo H h2
 exact ⟨E2,h1.trans h.1 (qf _) h3,h4⟩⟩
theorem nilAt_to (j k m root : Nat) (h : SH C) : NilTo h (nilAt j k m root h) := ⟨nilAt_len j k m root h,fun E lo wlo H hS => nilAt_ok hS j k m root⟩
def nilOne (j : Nat) (fh : SH C) (k : Nat) (v : SV C.T) (h : SH C) : SH C := match v with
 | .R i => match hget fh i with
  | some (.rows m _ _ root) => nilAt j k m root h
  | _ => h
 | _ => h
def nilCells (j : Nat) (fh : SH C) : Nat → List (SV C.T) → SH C → SH C
 | _,[],h => h
 | k,v :: vs,h => nilCells j fh (k + 1) vs (nilOne j fh k v h)
def nilObj (j : Nat) (fh : SH C) (h : SH C) : SH C := match hget fh j with
 | some (.cells cs0) => nilCells j fh 0 cs0 h
 | _ => h
def nilAll (foot : Nat → Bool) (fh : SH C) : Nat → SH C → SH C
 | 0,h => h
 | j + 1,h => nilAll foot fh j (bif foot j then nilObj j fh h else h)
theorem nilOne_to (j : Nat) (fh : SH C) (k : Nat) (v : SV C.T) (h : SH C) : NilTo h (nilOne j fh k v h) := by
 unfold nilOne
 split
 ·split
  ·exact nilAt_to _ _ _ _ _
  ·exact NilTo.refl h
 ·exact NilTo.refl h
theorem nilCells_to (j : Nat) (fh : SH C) : ∀ (vs : List (SV C.T)) (k : Nat) (h : SH C),NilTo h (nilCells j fh k vs h)
 | [],k,h => by unfold nilCells; exact NilTo.refl h
 | v :: vs,k,h => by
  unfold nilCells
  exact NilTo.trans (nilOne_to j fh k v h) (nilCells_to j fh vs (k + 1) _)
theorem nilObj_to (j : Nat) (fh h : SH C) : NilTo h (nilObj j fh h) := by
 unfold nilObj
 split
 ·exact nilCells_to j fh _ 0 h
 ·exact NilTo.refl h
theorem nilAll_to (foot : Nat → Bool) (fh : SH C) : ∀ (n : Nat) (h : SH C),NilTo h (nilAll foot fh n h)
 | 0,h => NilTo.refl h
 | n + 1,h => by
  unfold nilAll
  refine NilTo.trans ?_ (nilAll_to foot fh n _)
  cases foot n
  ·exact NilTo.refl h
  ·exact nilObj_to n fh h
end Go.Sy

/- Clone of a program: sealed. -/
import Derived.Test.YtcholkmididfmaaGreatDoorMw
import Derived.Test.YtcholkmididfmaaGreatDoorQu
import Derived.Test.YtcholkmididfmaaGreatDoorHc
namespace Go.Proofs.YtcholkmididfmaaGreatDoor
open Go.RowKit Go.Am Go.Sy
set_option linter.unusedVariables false
noncomputable def b54 : Code := Tryz.f54.body.getD .skip
theorem cl_e (p : List Instr) : Go.Sy.Tree.holds (entryX F (lookC []) 400 Tryz.f54 b54 ⟨[],.R 0,[.rows 2 p true 0]⟩ [.tl (T := T) 2 p]) = ((p = [] → [] = p ∧ True) ∧ (([] : List Instr).length + p.length) * 40 ≤ 140737488355328 ∧ [] ++ p = p ∧ True) := by kernel_rfl
theorem pl2 : ∀ y : cod.T 2,(cod.enc 2 y).all plainS = true := fun y => rfl
def clCt : Ctr cod := mkCtrL [.tl 2] (fun (x : List Instr × Unit) => x.1.length ≤ 100000) 2 (fun (x : List Instr × Unit) => x.1)
theorem clOk : CtrOk1 F.S 54 clCt :=
 mkCtrL_paid (fn := Tryz.f54) (body := b54) (ctr := lookC []) codOk noExt hookLow noneOk Tryz.func54 rfl rfl rfl [.tl 2] (fun (x : List Instr × Unit) => x.1.length ≤ 100000) 2 (fun (x : List Instr × Unit) => x.1) true 0 pl2 400 (fun _ => []) (show 1 ≤ Tryz.f54.ntmps by decide) (show Tryz.f54.ntmps ≤ 512 by decide) (by kernel_rfl)
  (fun (x : List Instr × Unit) hp => ⟨by
   show Go.Sy.Tree.holds (entryX F (lookC []) 400 Tryz.f54 b54 ⟨[],.R 0,[.rows 2 x.1 true 0]⟩ [.tl (T := T) 2 x.1])
   rw [cl_e]
   have hp : x.1.length ≤ 100000 := hp
   exact ⟨fun h => ⟨h.symm,trivial⟩,by rw [List.length_nil]; omega,rfl,trivial⟩⟩) (fun x hp p hm => by cases hm)
noncomputable def b51 : Code := Tryz.f51.body.getD .skip
noncomputable def b52 : Code := Tryz.f52.body.getD .skip
def clP (l : List Int) : Prop := (l = [] → [] = l ∧ True) ∧ (([] : List Int).length + l.length) * 8 ≤ 140737488355328 ∧ [] ++ l = l ∧ True
theorem c51_e (l : List Int) : Go.Sy.Tree.holds (entryX F (lookC []) 400 Tryz.f51 b51 ⟨[],.R 0,[.rows 0 l true 0]⟩ [.tl (T := T) 0 l]) = clP l := by kernel_rfl
theorem c52_e (l : List Int) : Go.Sy.Tree.holds (entryX F (lookC []) 400 Tryz.f52 b52 ⟨[],.R 0,[.rows 0 l true 0]⟩ [.tl (T := T) 0 l]) = clP l := by kernel_rfl
theorem clP_ok {l : List Int} (h : l.length ≤ 100000) : clP l := ⟨fun h => ⟨h.symm,trivial⟩,by rw [List.length_nil]; omega,rfl,trivial⟩
def clD : CtrD cod where
 pats := [.tl 0]
 pre := fun (x : List Int × Unit) => x.1.length ≤ 100000
 res := fun (x : List Int × Unit) => .R 0
 objs := fun (x : List Int × Unit) => [.rows 0 x.1 true 0]
theorem c51Ok : CtrOk1 F.S 51 (mkCtr clD) :=
 mkCtr_paid (fn := Tryz.f51) (body := b51) (ctr := lookC []) codOk noExt hookLow noneOk Tryz.func51 rfl rfl rfl clD 400 (fun _ => []) (show 1 ≤ Tryz.f51.ntmps by decide) (show Tryz.f51.ntmps ≤ 512 by decide) (by kernel_rfl) (fun _ _ => ⟨rfl,rfl⟩)
  (fun (x : List Int × Unit) hp => ⟨by
   show Go.Sy.Tree.holds (entryX F (lookC []) 400 Tryz.f51 b51 ⟨[],.R 0,[.rows 0 x.1 true 0]⟩ [.tl (T := T) 0 x.1])
   rw [c51_e]
   exact clP_ok hp⟩) (fun x hp p hm => by cases hm)
theorem c52Ok : CtrOk1 F.S 52 (mkCtr clD) :=
 mkCtr_paid (fn := Tryz.f52) (body := b52) (ctr := lookC []) codOk noExt hookLow noneOk Tryz.func52 rfl rfl rfl clD 400 (fun _ => []) (show 1 ≤ Tryz.f52.ntmps by decide) (show Tryz.f52.ntmps ≤ 512 by decide) (by kernel_rfl) (fun _ _ => ⟨rfl,rfl⟩)
  (fun (x : List Int × Unit) hp => ⟨by
   show Go.Sy.Tree.holds (entryX F (lookC []) 400 Tryz.f52 b52 ⟨[],.R 0,[.rows 0 x.1 true 0]⟩ [.tl (T := T) 0 x.1])
   rw [c52_e]
   exact clP_ok hp⟩) (fun x hp p hm => by cases hm)
noncomputable def inl (f : FuncId) : Ctr cod := fun wlo args h K => callX F (lookC []) (symx F (lookC []) 300) wlo f args h K
theorem inlOk (f : FuncId) : CtrOk1 F.S f (inl f) := fun E lo wlo args h H K av hh hS hA => callX_ok codOk noneOk (symx_ok codOk noExt hookLow noneOk 300) E lo wlo f args h H K av hh hS hA
noncomputable def cloneC (f : FuncId) (c : Ctr cod) : Ctr cod := fun wlo args h K => match args with
 | [.R id] => c wlo [.R id] h K
 | a => inl f wlo a h K
theorem cloneOk {f : FuncId} {c : Ctr cod} (hc : CtrOk1 F.S f c) : CtrOk1 F.S f (cloneC f c) := by
 intro E lo wlo args h H K av hh hS hA
 unfold cloneC at hh
 split at hh
 ·exact hc E lo wlo _ h H K av hh hS hA
 ·exact inlOk f E lo wlo _ h H K av hh hS hA
end Go.Proofs.YtcholkmididfmaaGreatDoor
/- HoldCounts: its families. -/
namespace Go.Proofs.YtcholkmididfmaaGreatDoor
open Go.RowKit Go.Am Go.Sy
set_option linter.unusedVariables false
noncomputable def pickN (n : Nat) : Ctr cod := fun wlo args h K => match args with
 | [p,.i .i64 x] => .need (0 ≤ x ∧ x < 3) (.fork (x == 2) (pickCt n 2 wlo [p,li 2] h K) (.fork (x == 1) (pickCt n 1 wlo [p,li 1] h K) (pickCt n 0 wlo [p,li 0] h K)))
 | _ => .stuck "pick"
noncomputable def pickA : Ctr cod := fun wlo args h K => match (h[3]? : Option (Option Ob)) with
 | some (some (.cells cs)) => bif Nat.beq cs.length 10 then pickN 1 wlo args h K else bif Nat.beq cs.length 20 then pickN 2 wlo args h K else bif Nat.beq cs.length 30 then pickN 3 wlo args h K else .stuck "pick: how many"
 | _ => .stuck "pick: no threads"
noncomputable def tellCtr : Ctr cod := fun _ args h K => match args with
 | [] => K (.a (.bool true)) h
 | _ => .stuck "told"
def initL : List Int := [0,1,2,3,0,1,2,3,0]
def locksL : List Lock := [⟨1,0,3⟩,⟨2,3,3⟩,⟨3,6,3⟩]
def condL : List Int := [0,1,2]
def ivs (l : List Int) : List V := l.map li
def w9 (w : Nat → Int) : List V := [iv (w 0),iv (w 1),iv (w 2),iv (w 3),iv (w 4),iv (w 5),iv (w 6),iv (w 7),iv (w 8)]
def cfgH (pr : V) (j : Nat) : List V := [li 1,li 1,li 1,li 32,li 1,li 0,li 200,li 1073741824,.sl 1 j 0 9 9 false,.sl 3 (j + 1) 0 3 3 false,.sl 1 (j + 2) 0 3 3 false,pr]
def lockC : List V := ivs [1,0,3,2,3,3,3,6,3]
def psC (ps : Nat → List Instr) : Nat → List V
 | 0 => []
 | k + 1 => psC ps k ++ [.tl (T := T) 2 (ps k)]
def baseO (w : Nat → Int) (ps : Nat → List Instr) (i : Nat) : List Ob := [.cells (w9 w),.cells (cfgH (bif Nat.beq i 0 then .a .nils else .sl 1 5 0 i i false) 2),.cells (ivs initL),.cells lockC,.cells (ivs [0,1,2])] ++ (bif Nat.beq i 0 then [] else [.cells (psC ps i)])
structure HS where
 rows : List (List Int)
 l : List Int
 w : Nat → Int
 ps : Nat → List Instr
 j : Nat
 p : List Instr
def dsR (rows : List (List Int)) (t : Nat) : List Int := (at5 rows t).map fun x => pk x 9
structure HB (i : Nat) (s : HS) : Prop where
 few : s.rows.length ≤ 3
 le : i ≤ s.rows.length
 six : ∀ t : Nat,t < s.rows.length → (at5 s.rows t).length ≤ 6
 l : s.l.length ≤ 150
 ps : ∀ t,t < i → s.ps t = cntP (dsR s.rows t)
def cntB (rows : List (List Int)) (i : Nat) (d : Int) : Nat := sumC (fun t => (dsR rows t).count d) i
def h7 (i : Nat) : CutD cod := ⟨HS,fun s => HB i s ∧ ∀ d : Nat,d < 9 → s.w d = (cntB s.rows i d : Int),fun s => 10000 - 1000 * i,
 fun s => [(0,.tl (T := T) 5 s.rows),(1,.tl (T := T) 0 s.l),(5,.ptr 0 0),(6,.ptr 1 0),(7,li i)],fun s => baseO s.w s.ps i⟩
def h11 (i : Nat) : CutD cod := ⟨HS,fun s => HB i s ∧ i < s.rows.length ∧ s.j ≤ (dsR s.rows i).length ∧ s.p = cntP ((dsR s.rows i).take s.j) ∧ ∀ d : Nat,d < 9 → s.w d = (cntB s.rows i d + ((dsR s.rows i).take s.j).count (d : Int) : Nat),fun s => 9990 - 1000 * i - s.j,
 fun s => [(0,.tl (T := T) 5 s.rows),(1,.tl (T := T) 0 s.l),(5,.ptr 0 0),(6,.ptr 1 0),(7,li i),(8,.R (bif Nat.beq i 0 then 5 else 6)),(9,.i .i64 (s.j : Int))],fun s => baseO s.w s.ps i ++ [.rows 2 s.p true (bif Nat.beq i 0 then 5 else 6)]⟩
def h16 (i : Nat) : CutD cod := ⟨HS,fun s => HB i s ∧ i < s.rows.length ∧ s.p = cntP (dsR s.rows i) ∧ ∀ d : Nat,d < 9 → s.w d = (cntB s.rows (i + 1) d : Int),fun s => 9900 - 1000 * i,
 fun s => [(0,.tl (T := T) 5 s.rows),(1,.tl (T := T) 0 s.l),(5,.ptr 0 0),(6,.ptr 1 0),(7,li i),(8,.tl (T := T) 2 s.p)],fun s => baseO s.w s.ps i⟩
def nOf (i : Nat) : Nat := bif Nat.beq i 0 then 1 else i
def h19 (i : Nat) : CutD cod := ⟨HS,fun s => s.rows.length = i ∧ i ≤ 3 ∧ (∀ t : Nat,t < i → (at5 s.rows t).length ≤ 6) ∧ s.l.length ≤ 150 ∧ (∀ t,t < i → s.ps t = cntP (dsR s.rows t)) ∧ (i = 0 → s.ps 0 = []) ∧ ∀ d : Nat,d < 9 → s.w d = (cntB s.rows i d : Int),fun s => 6000,
 fun s => [(0,.tl (T := T) 5 s.rows),(1,.tl (T := T) 0 s.l),(5,.ptr 0 0),(6,.ptr 1 0),(7,li i)],fun s => baseO s.w s.ps (nOf i)⟩
structure HL where
 rows : List (List Int)
 l : List Int
 K : MK
 S : MT
 w : Nat → Int
 ps : List (List Instr)
 c0 : List Int
 k : Nat
def tsOf (l : List Int) (k : Nat) : Nat := if k < l.length then (pk (at0 l k) 3).toNat else k % 3
structure HK (i : Nat) (s : HL) : Prop where
 r : s.rows.length = i ∧ i ≤ 3
 six : ∀ t : Nat,t < i → (at5 s.rows t).length ≤ 6
 l : s.l.length ≤ 150
 c0 : s.c0 = initL
 ps : s.ps.length = nOf i
 w : ∀ d : Nat,d < 9 → s.w d = (cntB s.rows i d : Int)
 K : s.K.c.locks = locksL ∧ s.K.c.conds = condL ∧ s.K.c.progs = s.ps ∧ s.K.m.length = nOf i
 ok : HOk s.K (nOf i) (dsR s.rows)
 k : s.k ≤ s.l.length + 400
 inv : HInv s.K (nOf i) (dsR s.rows) initL (goC' s.K (nOf i) (dsR s.rows) (tsOf s.l) s.k) s.S
def h23 (i : Nat) : CutD cod := ⟨HL,HK i,fun s => 1000 - s.k,
 fun s => [(1,.tl (T := T) 0 s.l),(5,.ptr (8 + 2 * nOf i) 0),(6,.ptr (9 + 2 * nOf i) 0),(7,li i),(11,.ptr 0 0),(12,.i .i64 (s.k : Int))],
 fun s => mBase s.K (nOf i) 5 s.S ++ mLists (nOf i) s.S ++ [.cells (w9 s.w),.cells [.any,.any,.any,.any,.any,.any,.any,.any,.tl (T := T) 0 s.c0,.any,.any,.tl (T := T) 3 s.ps]]⟩
def hCuts : List (Nat × CutD cod) := [(7,h7 0),(7,h7 1),(7,h7 2),(7,h7 3),(11,h11 0),(11,h11 1),(11,h11 2),(16,h16 0),(16,h16 1),(16,h16 2),(19,h19 0),(19,h19 1),(19,h19 2),(19,h19 3),(23,h23 0),(23,h23 1),(23,h23 2),(23,h23 3)]
def litN : V → Option Nat
 | .a (.int _ (.ofNat n)) => some n
 | _ => none
noncomputable def prN (r : SR cod) (h : SH cod) : Option (Nat × Bool) := match r.get 6 with
 | .ptr id _ => match (h[id]? : Option (Option Ob)) with
  | some (some (.cells cs)) => match (cs[11]? : Option V) with
   | some (.sl _ k _ n _ _) => match (h[k]? : Option (Option Ob)) with
    | some (some (.cells (.a .nils :: _))) => some (n,true)
    | _ => some (n,false)
   | _ => none
  | _ => none
 | _ => none
noncomputable def hSel (rid : Nat) (r : SR cod) (h : SH cod) : Option Nat := match litN (r.get 7) with
 | some i => bif Nat.beq rid 7 then some i else bif Nat.beq rid 11 then some (4 + i) else bif Nat.beq rid 16 then some (7 + i) else bif Nat.beq rid 23 then some (14 + i) else
  match prN r h with
  | some (n,b) => bif Nat.beq n (nOf i) && (b == Nat.beq i 0) then some (10 + i) else none
  | none => none
 | none => none
noncomputable def hCtr : List (FuncId × Ctr cod) := [(9,mkCtr fwD),(10,tellCtr),(17,pickA),(87,mkCtr prD),(53,mtCt),(54,clCt),(51,cloneC 51 (mkCtr clD)),(52,cloneC 52 (mkCtr clD)),(83,noCtr),(82,noCtr)]
noncomputable def b6 : Code := Tryz.f6.body.getD .skip
noncomputable abbrev cutH (r : Nat) (D : CutD cod) (s : D.St) : Go.Sy.Tree := cutS F (lookC hCtr) 3000 Tryz.f6 b6 ⟨hCuts,.b true,[]⟩ hSel r D s
end Go.Proofs.YtcholkmididfmaaGreatDoor
/- HoldCounts: what is owed ahead of New, said by functions. -/
namespace Go.Proofs.YtcholkmididfmaaGreatDoor
open Go.RowKit Go.Am Go.Sy
set_option linter.unusedVariables false
set_option linter.unusedSimpArgs false
def eqL : List AVal → Prop → Prop
 | [],P => P
 | a :: l,P => a = a ∧ eqL l P
theorem eqL_ok {P : Prop} (h : P) : ∀ l,eqL l P
 | [] => h
 | a :: l => ⟨rfl,eqL_ok h l⟩
def ints (l : List Int) : List AVal := l.map fun n => .int .i64 n
def baseA : List AVal := ints [1,1,1,32,1,0,200,1073741824,0,1,2,3,0,1,2,3,0,1,0,3,2,3,3,3,6,3,0,1,2]
def wE (w w' : Nat → Int) (P : Prop) : Prop := w 0 = w' 0 ∧ w 1 = w' 1 ∧ w 2 = w' 2 ∧ w 3 = w' 3 ∧ w 4 = w' 4 ∧ w 5 = w' 5 ∧ w 6 = w' 6 ∧ w 7 = w' 7 ∧ w 8 = w' 8 ∧ P
def psL (f g : Nat → List Instr) : Nat → Prop → Prop
 | 0,P => P
 | k + 1,P => psL f g k (f k = g k ∧ P)
theorem psL_ok (f : Nat → List Instr) {P : Prop} (h : P) : ∀ n,psL f f n P
 | 0 => h
 | n + 1 => psL_ok f ⟨rfl,h⟩ n
def baseE (i j : Nat) (s s' : HS) (P : Prop) : Prop := s.rows = s'.rows ∧ s.l = s'.l ∧ wE s.w s'.w (eqL baseA (bif Nat.beq i 0 then (AVal.nils = AVal.nils ∧ AVal.int .i64 (j : Int) = AVal.int .i64 (j : Int) ∧ P) else psL s.ps s'.ps i (AVal.int .i64 (j : Int) = AVal.int .i64 (j : Int) ∧ P)))
theorem baseE_ok (i j : Nat) (s : HS) {P : Prop} (h : P) : baseE i j s s P := by
 refine ⟨rfl,rfl,rfl,rfl,rfl,rfl,rfl,rfl,rfl,rfl,rfl,eqL_ok ?_ _⟩
 cases Nat.beq i 0 with
 | true => exact ⟨rfl,rfl,h⟩
 | false => exact psL_ok _ ⟨rfl,h⟩ _
def toC (D : CutD cod) (m : Nat) (s : D.St) : Prop := D.I s ∧ D.m s < m ∧ True
def w0F : Nat → Int := fun _ => 0
section
variable (rows : List (List Int)) (l : List Int) (s : HS)
def pe : Prop := fwD.pre (rows,(6 : Int),()) ∧ ((!fewB rows 6) = true → true = true ∧ True) ∧ ((!fewB rows 6) = false → (decide ((rows.length : Int) > 3) = true → true = true ∧ True) ∧ (decide ((rows.length : Int) > 3) = false →
 (decide ((l.length : Int) > 150) = true → true = true ∧ True) ∧ (decide ((l.length : Int) > 150) = false → ∃ s' : HS,baseE 0 0 ⟨rows,l,w0F,fun _ => [],0,[]⟩ s' ((h7 0).I s' ∧ True))))
def in11 (i : Nat) : Prop := ∃ s' : HS,baseE i i s s' ([⟨1,1,0,0,1⟩] = s'.p ∧ (0 : Int) = s'.j ∧ toC (h11 i) ((h7 i).m s) s')
def in19 (i : Nat) : Prop := ∃ s' : HS,baseE i i s s' (toC (h19 i) ((h7 i).m s) s')
def in190 : Prop := ∃ s' : HS,s.rows = s'.rows ∧ s.l = s'.l ∧ wE s.w s'.w (eqL baseA ([] = s'.ps 0 ∧ AVal.int .i64 0 = AVal.int .i64 0 ∧ toC (h19 0) 10000 s'))
def p7 (i : Nat) : Prop := (decide ((i : Int) < s.rows.length) = true → (bif Nat.beq i 3 then False else in11 s i)) ∧ (decide ((i : Int) < s.rows.length) = false →
 (((s.rows.length : Int) == 0) = true → (bif Nat.beq i 0 then in190 s else False)) ∧ (((s.rows.length : Int) == 0) = false → (bif Nat.beq i 0 then False else in19 s i)))
def bnI (i : Int) (n : Nat) (P : Prop) : Prop := ((0 : Int) ≤ i ∧ i < (n : Int)) ∧ P
def updW (w : Nat → Int) (a b : Nat) : Nat → Int := fun k => bif Nat.beq k b then IntKind.i64.wrap (w a + 1) else w k
def secW (d : Int) : List Instr := [⟨13,IntKind.i64.wrap (d.tdiv 3),0,0,0⟩,⟨8,2,0,0,d⟩,⟨2,2,2,1,0⟩,⟨9,2,0,0,d⟩,⟨14,0,0,0,0⟩]
def p11 (i : Nat) : Prop := bnI i s.rows.length ((decide ((s.j : Int) < (at5 s.rows i).length) = true → bnI i s.rows.length (bnI s.j (at5 s.rows i).length (ixP (pk (at0 (at5 s.rows i) s.j) 9) 9 fun a => ixP (pk (at0 (at5 s.rows i) s.j) 9) 9 fun b =>
 (s.p.length + (secW (pk (at0 (at5 s.rows i) s.j) 9)).length) * 40 ≤ 140737488355328 ∧
 ∃ s' : HS,baseE i i ⟨s.rows,s.l,updW s.w a b,s.ps,0,[]⟩ s' (s.p ++ secW (pk (at0 (at5 s.rows i) s.j) 9) = s'.p ∧ IntKind.i64.wrap ((s.j : Int) + 1) = s'.j ∧ toC (h11 i) ((h11 i).m s) s')))) ∧
 (decide ((s.j : Int) < (at5 s.rows i).length) = false → ∃ s' : HS,baseE i i s s' (s.p = s'.p ∧ toC (h16 i) ((h11 i).m s) s')))
def p16 (i : Nat) : Prop := ∃ s' : HS,s.rows = s'.rows ∧ s.l = s'.l ∧ wE s.w s'.w (eqL baseA (psL s.ps s'.ps i (s.p = s'.ps i ∧ AVal.int .i64 ((i : Int) + 1) = AVal.int .i64 ((i : Int) + 1) ∧ toC (h7 (i + 1)) ((h16 i).m s) s')))
end
end Go.Proofs.YtcholkmididfmaaGreatDoor
/- HoldCounts: what is owed at New, and at each pick, said by functions. -/
namespace Go.Proofs.YtcholkmididfmaaGreatDoor
open Go.RowKit Go.Am Go.Sy
set_option linter.unusedVariables false
set_option linter.unusedSimpArgs false
def plL (ps : Nat → List Instr) : Nat → List (List Instr)
 | 0 => []
 | k + 1 => plL ps k ++ [ps k]
def mtL (ps : Nat → List Instr) : Nat → List (List Int)
 | 0 => []
 | k + 1 => mtL ps k ++ [(matesR (ps k)).1]
def cfgN (ps : Nat → List Instr) (n : Nat) : Config := ⟨1,1,1,32,1,0,200,1073741824,initL,locksL,condL,plL ps n⟩
def ownL : List Int := [-1,-1,-1,-1,-1,-1,-1,-1,-1]
def newM (st : Nat → Int) : MT := ⟨initL,ownL,fun t => ⟨0,200,st t,0,0,0,0,-1,[],[]⟩,fun _ => []⟩
def updS (st : Nat → Int) (t : Nat) (v : Int) : Nat → Int := fun k => bif Nat.beq k t then v else st k
section
variable (i : Nat)
def in23 (l : List Int) (w : Nat → Int) (c0 : List Int) (ps : List (List Instr)) (K : MK) (S : MT) (k : Int) (m : Nat) : Prop :=
 ∃ z : HL,l = z.l ∧ wE w z.w (c0 = z.c0 ∧ ps = z.ps ∧ AVal.int .i64 (i : Int) = AVal.int .i64 (i : Int) ∧ kE K z.K (S.w = z.S.w ∧ S.o = z.S.o ∧ thoE S.th z.S.th (nOf i) (S.q 0 = z.S.q 0 ∧ S.q 1 = z.S.q 1 ∧ S.q 2 = z.S.q 2 ∧ k = z.k ∧ toC (h23 i) m z)))
theorem in23_ok {rows : List (List Int)} {l : List Int} {w : Nat → Int} {c0 : List Int} {ps : List (List Instr)} {K : MK} {S : MT} {k : Int} {m : Nat} (j : Nat) (hk : k = (j : Int)) (h : toC (h23 i) m ⟨rows,l,K,S,w,ps,c0,j⟩) : in23 i l w c0 ps K S k m :=
 ⟨⟨rows,l,K,S,w,ps,c0,j⟩,rfl,rfl,rfl,rfl,rfl,rfl,rfl,rfl,rfl,rfl,rfl,rfl,rfl,rfl,rfl,rfl,rfl,rfl,rfl,rfl,rfl,rfl,rfl,rfl,rfl,rfl,rfl,rfl,thoE_ok _ ⟨rfl,rfl,rfl,hk,h⟩ _⟩
end
section
variable (s : HS) (i : Nat)
def preN (n : Nat) : Nat → Prop → Prop
 | 0,P => P
 | k + 1,P => preN n k (prD.pre (cfgN s.ps n,(k : Int),()) ∧ P)
def goN (n : Nat) : Nat → (Nat → Int) → Prop
 | 0,st => in23 i s.l s.w initL (plL s.ps n) ⟨cfgN s.ps n,mtL s.ps n⟩ (newM st) 0 6000
 | r + 1,st => (s.ps (n - (r + 1))).length ≤ 100000 ∧ (s.ps (n - (r + 1))).length ≤ 100000 ∧ ((((s.ps (n - (r + 1))).length : Int) == 0) = true → goN n r (updS st (n - (r + 1)) 1)) ∧ ((((s.ps (n - (r + 1))).length : Int) == 0) = false → goN n r (updS st (n - (r + 1)) 0))
def p19 : Prop := preN s (nOf i) (nOf i) (goN s i (nOf i) (nOf i) fun _ => 0)
end
section
variable (i : Nat) (s : HL)
def gX (k : Nat) : Option Ob := bif Nat.beq k (8 + 2 * nOf i) then some (.cells (w9 s.w)) else bif Nat.beq k (9 + 2 * nOf i) then some (.cells [.any,.any,.any,.any,.any,.any,.any,.any,.tl (T := T) 0 s.c0,.any,.any,.tl (T := T) 3 s.ps]) else none
def pkCall (t : Nat) : Prop := askP 40 (nOf i) 5 (gX i s) 40 (∃ z : PkS,toE (nOf i) s.K z.K s.S z.S (AVal.int .i64 (t : Int) = AVal.int .i64 (t : Int)) (PkI (nOf i) t z ∧ (∀ y : MK × MT × Bool,y.1 = z.K ∧ y.2.1 = pickM z.K (nOf i) t z.S ∧ y.2.2 = canB (viewM z.K (nOf i) z.S) t →
 in23 i s.l s.w s.c0 s.ps y.1 y.2.1 (IntKind.i64.wrap ((s.k : Int) + 1)) ((h23 i).m s)) ∧ True))
def wLoop : Nat → Prop → Prop
 | 0,P => P
 | k + 1,P => wLoop k (((0 : Int) ≤ (k : Int) ∧ (k : Int) < (s.S.w.length : Int)) ∧ ((0 : Int) ≤ (k : Int) ∧ (k : Int) < (s.S.w.length : Int)) ∧ ((0 : Int) ≤ (k : Int) ∧ (k : Int) < (s.c0.length : Int)) ∧
  ((at0 s.S.w k != IntKind.i64.wrap (s.w k + at0 s.c0 k)) = true → false = true ∧ True) ∧ ((at0 s.S.w k != IntKind.i64.wrap (s.w k + at0 s.c0 k)) = false → P))
def stLoop : Nat → Prop → Prop
 | 0,P => P
 | k + 1,P => stLoop k ((((s.S.th k).status != 1) = true → false = true ∧ True) ∧ (((s.S.th k).status != 1) = false → P))
def lgLoop : Nat → Prop → Prop
 | 0,P => P
 | k + 1,P => lgLoop k (clD.pre ((s.S.th k).log,()) ∧ P)
def outP : Prop := lgLoop s (nOf i) (clD.pre (s.S.w,()) ∧ clD.pre (s.S.o,()) ∧ clD.pre (s.S.q 0,()) ∧ clD.pre (s.S.q 1,()) ∧ clD.pre (s.S.q 2,()) ∧ (((s.S.w.length : Int) != 9) = true → false = true ∧ True) ∧ (((s.S.w.length : Int) != 9) = false →
 wLoop s 9 (stLoop s (nOf i) ((((nOf i : Nat) : Int) == (s.ps.length : Int)) = true ∧ True))))
def p23 : Prop := (decide ((s.k : Int) < IntKind.i64.wrap ((s.l.length : Int) + 400)) = true →
 (decide ((s.k : Int) < (s.l.length : Int)) = true → bnI s.k s.l.length (ixP (pk (at0 s.l s.k) 3) 3 fun t => pkCall i s t)) ∧
 (decide ((s.k : Int) < (s.l.length : Int)) = false → ixP ((s.k : Int).tmod 3) 3 fun t => pkCall i s t)) ∧
 (decide ((s.k : Int) < IntKind.i64.wrap ((s.l.length : Int) + 400)) = false → outP i s)
end
end Go.Proofs.YtcholkmididfmaaGreatDoor
